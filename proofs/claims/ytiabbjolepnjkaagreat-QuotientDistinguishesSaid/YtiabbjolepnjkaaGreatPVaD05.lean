/- Part of the proof that the laws answer true for every input. -/
import Derived.Test.YtiabbjolepnjkaaGreatPVaD04
set_option linter.unusedSimpArgs false
set_option linter.unnecessarySimpa false
set_option linter.unusedVariables false
set_option maxRecDepth 100000
set_option maxHeartbeats 40000000
namespace Go.Proofs.YtiabbjolepnjkaaGreat
open Go.RowKit
attribute [local go_sem ↓] Go.wp_at_zero Go.wp_at_succ
theorem QX {S:Nat→Prop} {w:World} {v:Value} {s:SysF} (h:SysV S w v s) (hg:GoodS s s.N s.K) (hm:s.tab.length≤120):∀m,m≤6→PthC v w s.tab m
 | 0,_=>zbr h hm
 | m+1,h6=>zbH h hg hm (by omega) (QX h hg hm m (by omega))
theorem zeL {P:List Int→Bool}:∀{l:List (List Int)} {i:Nat},i<l.length→(∀j,j<i→P (nthL l j)=false)→P (nthL l i)=true→l.find? P=some (nthL l i)
 | [],i,h,_,_=>by simp at h
 | a::l,0,_,_,h=>by rw[List.find?_cons,show P a=true from h];rfl
 | a::l,i+1,h,hj,hi=>by
  rw[List.find?_cons,show P a=false from hj 0 (by omega)];exact zeL (by simpa using h) (fun j hj'=>hj (j+1) (by omega)) hi
theorem zgD {P:List Int→Bool} {l:List (List Int)} (h:∀j,j<l.length→P (nthL l j)=false):l.find? P=none:=by
 rw[List.find?_eq_none];intro x hx;obtain ⟨i,hi,rfl⟩:=List.getElem_of_mem hx;have:=h i hi;rw[zV hi]at this;rw[this];simp
theorem OwnList.cells {e:TypeId} {B:Nat} {w:World} {a:Option Addr} {n c:Nat} {vs:List Value} {ll:List (List Int)} (h:OwnList e B w (.slice a n c) vs ll):(∀j,j<ll.length→w.cell? (adr a j)=some (vs.getD j undef))∧∀u∈vs,u.oneCell'=true:=by
 have hl:=h.len;constructor
 ·intro j hj;rcases h.row.2 with ⟨e1,hn0⟩ | ⟨g,cap,cur,e1,_⟩
  ·omega
  ·cases e1;rw[zW,Nat.zero_add,h.row.cellAt j (by omega)];have:=Zn (l:=vs) (k:=j) (by omega);rw[this];rfl
 ·intro u hu;obtain ⟨i,hi,rfl⟩:=List.getElem_of_mem hu;obtain ⟨a',c',h1,_⟩:=(h.rows i (by omega)).form;have:nthV vs i=vs[i]:=by simp[nthV,hi]
  rw[←this,h1];rfl
theorem OwnList.join {e:TypeId} {B5 B6:Nat} {w6 w7:World} {va vb v':Value} {vsA vsB:List Value} {PA PB:List (List Int)} (hA:OwnList e B5 w6 va vsA PA) (hB:OwnList e B6 w6 vb vsB PB) (hlt:∀k,va.ownBlock=some k→k<B6)
  (ho:w7.ownsRow B5 e 1 v' (PA.length+PB.length) (vsA++vsB)) (hag:∀S:Nat→Prop,(∀k,va.ownBlock=some k→¬S k)→Agree S w6 w7):Lists TT w7 v' (PA++PB):=by
 have la:=hA.len;have lb:=hB.len;refine Lists.of_own (base:=B5) (e:=e) (vs:=vsA++vsB) (by rw[List.length_append];exact ho) ⟨by simp[la,lb],fun j hj=>?_⟩ fun b hb=>trivial;rw[List.length_append]at hj;by_cases h:j<PA.length
 ·have e1:nthV (vsA++vsB) j=nthV vsA j:=by simp[nthV,List.getElem?_append_left (show j<vsA.length by omega)]
  have e2:nthL (PA++PB) j=nthL PA j:=by simp[nthL,List.getElem?_append_left h]
  rw[e1,e2];exact ((hA.rows j h).agree (hag _ fun k hk hS=>hS.2 hk)).mono fun _ _=>trivial
 ·have e1:nthV (vsA++vsB) j=nthV vsB (j - PA.length):=by simp[nthV,List.getElem?_append_right (show vsA.length≤j by omega),la]
  have e2:nthL (PA++PB) j=nthL PB (j - PA.length):=by simp[nthL,List.getElem?_append_right (show PA.length≤j by omega)]
  rw[e1,e2];exact ((hB.rows (j - PA.length) (by omega)).agree (hag _ fun k hk hS=>by have:=hlt k hk;have:=hS.1;omega)).mono fun _ _=>trivial
def FirR (D:List Int) (w':World) (r:Value):Prop:=∃rv,r=.tuple #[rv,.bool (decide (D≠[]))]∧Ints TT w' rv D
theorem Lists.form' {S:Nat→Prop} {w:World} {a:Option Addr} {n c:Nat} {l:List (List Int)} (h:Lists S w (.slice a n c) l):Ad S w a n c:=by
 obtain ⟨_,_,e,h1,_⟩:=h.form;cases e;exact h1
theorem Ql {S S2:Nat→Prop} {w:World} {v vch:Value} {s:SysF} {ch:List Int} {u x:Nat} (h:SysV S w v s) (hg:GoodS s s.N s.K) (h2:Ints S2 w vch ch) (hl:ch.length=s.tab.length) (hm:s.tab.length≤120) (hu:u<s.tab.length) (hx':x<s.tab.length) (hne:u≠x):
  Calls Tryz.prog 56 #[v,.agg #[vch],u,x] w (Post w (FirR (disL s.tab ch s.K (min u x) (max u x)))):=by
 have KP:Hid (∀m:Nat,m≤6→∀k,k<s.tab.length→∀W,Below w.heap.size w W→Calls Tryz.prog 90 #[v,k,.int .i64 ((m:Int)+1)] W (Post W (OwnP W.heap.size (pthsR s.tab m k)))):=zhd fun m h6 k hk W hW=>QX h hg hm m h6 k hk W hW;have KO:Hid (∀S3 vl q,0<q.length→q.length≤100→(∀k,k<q.length→∃y:Nat,nth q k=y∧y<s.tab.length)→∀W,Below w.heap.size w W→Ints S3 W vl q→Calls Tryz.prog 59 #[v,.agg #[vch],u,x,vl] W (Post W fun _ r=>∃o:Int,r=.int .i64 o∧(o=1↔aprB s.tab ch u x q=true))):=zhd fun S3 vl q h0 h1 h3 W hW hi=>Qm (h.ext hW) hg (h2.ext hW) hi hl hu hx' h0 h1 (by omega) h3;obtain ⟨ca,cc,sa,sc,ta,tc,xa,xc,rfl,hc,hs,ht,hx⟩:=h.zf;obtain ⟨a2,c2,rfl,_⟩:=h2.form;obtain ⟨ex,R0,R1⟩:=zb2 w [s.p.n,s.p.ins,s.p.outs,.slice ca s.p.cs.length cc,s.p.an,.slice sa s.p.st.length sc,s.p.rounds,s.tn,.slice ta s.tab.length tc,.slice xa s.ex.length xc] [.slice a2 ch.length c2] 35 38;have HTB:=zhd hg.tab;have hK6:=hg.K6;have HRD:=zhd hg.rnd;rw[HRD.out]at KP KO ex R0 R1 ⊢;have HD0:Hid (∀m,((pthsR s.tab m (min u x)++pthsR s.tab m (max u x)).find? (aprB s.tab ch u x))=if disF s.tab ch (min u x) (max u x) m=[] then none else some (disF s.tab ch (min u x) (max u x) m)):=zhd fun m=>zfa hne m;obtain ⟨a,ha⟩:=zn (min u x);obtain ⟨b,hb⟩:=zn (max u x);have HA:=zhd ha;have HB:=zhd hb;rw[←ha,←hb]at HD0 ⊢;have hmn:(if x<u then (x:Int) else (u:Int))=(a:Int):=by split<;>omega
 have hmx:(if u<x then (x:Int) else (u:Int))=(b:Int):=by split<;>omega
 have han:a<s.tab.length:=by omega
 have hbn:b<s.tab.length:=by omega
 have KPA0:Hid (∀m:Nat,m≤6→∀W,Below w.heap.size w W→Calls Tryz.prog 90 #[.agg #[s.p.n,s.p.ins,s.p.outs,.slice ca s.p.cs.length cc,s.p.an,.slice sa s.p.st.length sc,s.K,s.tn,.slice ta s.tab.length tc,.slice xa s.ex.length xc],a,.int .i64 ((m:Int)+1)] W (Post W (OwnP W.heap.size (pthsR s.tab m a)))):=zhd fun m h6=>KP.out m h6 a han;have KPB0:Hid (∀m:Nat,m≤6→∀W,Below w.heap.size w W→Calls Tryz.prog 90 #[.agg #[s.p.n,s.p.ins,s.p.outs,.slice ca s.p.cs.length cc,s.p.an,.slice sa s.p.st.length sc,s.K,s.tn,.slice ta s.tab.length tc,.slice xa s.ex.length xc],b,.int .i64 ((m:Int)+1)] W (Post W (OwnP W.heap.size (pthsR s.tab m b)))):=zhd fun m h6=>KP.out m h6 b hbn;have HBG:Hid (∀m:Nat,m≤6→((pthsR s.tab m a).length≤2839760855281∧(pthsR s.tab m b).length≤2839760855281)∧∀q∈pthsR s.tab m a++pthsR s.tab m b,(0<q.length∧q.length≤100)∧∀k,k<q.length→∃y:Nat,nth q k=y∧y<s.tab.length):=zhd fun m h6=>by
  refine ⟨⟨Yk HTB.out hm h6 han,Yk HTB.out hm h6 hbn⟩,fun q hq=>?_⟩;rcases List.mem_append.1 hq with hq | hq
  ·obtain ⟨e1,e2⟩:=xh han hq;exact ⟨⟨by omega,by omega⟩,e2⟩
  ·obtain ⟨e1,e2⟩:=xh hbn hq;exact ⟨⟨by omega,by omega⟩,e2⟩
 have HFS:Hid (∀m:Nat,m≤s.K→(∀i,i<m→disF s.tab ch a b i=[])→disF s.tab ch a b m≠[]→disL s.tab ch s.K a b=disF s.tab ch a b m):=zhd fun m h6 h7 h8=>zcw (Nat.zero_le _) (by omega) (fun i _ hi=>h7 i hi) h8;have HFN:Hid ((∀i,i<s.K+1→disF s.tab ch a b i=[])→disL s.tab ch s.K a b=[]):=zhd fun h7=>qG.2 fun i _ hi=>h7 i (by omega);obtain ⟨D,hD⟩:=zn (disL s.tab ch s.K a b);rw[←hD]at HFS HFN ⊢;obtain ⟨K,hK⟩:=zn s.K;rw[←hK]at KO KPA0 KPB0 ex R0 R1 hK6 HFS HFN ⊢;clear hc hs ht hx h2 hl hD hK KP HTB HRD hg ha hb hne;go_enter Tryz.func56,Tryz.ntmps56;go_wp2;go_loopw [10,11,12] (fun Lv _ _ wr=>∃m:Nat,m≤K+1∧Lv=.int .i64 ((m:Int)+1)∧Hid (∀i,i<m→disF s.tab ch a b i=[])∧Below w.heap.size w wr∧Row wr w.heap.size 35 [s.p.n,s.p.ins,s.p.outs,.slice ca s.p.cs.length cc,s.p.an,.slice sa s.p.st.length sc,K,s.tn,.slice ta s.tab.length tc,.slice xa s.ex.length xc]∧Row wr (w.heap.size+1) 38 [.slice a2 ch.length c2]) (fun Lv _ _ _=>K+2 - (intOf Lv).toNat)
 case atStart=>exact ⟨0,Nat.zero_le _,rfl,zhd fun i hi=>by omega,ex,R0,R1⟩
 case round=>
  clear ex R0 R1;obtain ⟨m,hmK,rfl,HF,ex,R0,R1⟩:=hrel;by_cases hlt:m≤K
  case neg=>
   obtain rfl:m=K+1:=by omega
   have HE:=zhd (HFN.out HF.out);have t6:=R0.zc 6 rfl;have l0:=R0.lt;have d1:decide ((K:Int)+1+1≤(K:Int)+1)=false:=decide_eq_false (by omega);go_wp2;go_ret2;exact .mk ex ⟨_,by rw[HE.out];rfl,by rw[HE.out];exact Ints.nil _ _⟩
  have KPA:=zhd (KPA0.out m (by omega));have KPB:=zhd (KPB0.out m (by omega));have HBM:=zhd (HBG.out m (by omega));have HDM:=zhd (HD0.out m);obtain ⟨PA,hPA⟩:∃P,P=pthsR s.tab m a:=⟨_,rfl⟩;obtain ⟨PB,hPB⟩:∃P,P=pthsR s.tab m b:=⟨_,rfl⟩;rw[←hPA]at KPA HBM HDM;rw[←hPB]at KPB HBM HDM;have hPAl:=HBM.out.1.1;have hPBl:=HBM.out.1.2;have t6:=R0.zc 6 rfl;have l0:=R0.lt;have HEX:=zhd ex;have HR0:=zhd R0;have HR1:=zhd R1;obtain ⟨Lm,hLm⟩:∃L:Int,L=(m:Int)+1:=⟨_,rfl⟩;rw[←hLm]at KPA KPB ⊢;have HLM:=zhd hLm;have hLb1:1≤Lm:=by omega
  have hLb2:Lm≤7:=by omega
  have d1:decide (Lm≤(K:Int)+1)=true:=decide_eq_true (by omega);have KEEP:Hid (∀w',Below wr.heap.size wr w'→(fun w':World=>w'.cell? ⟨w.heap.size,0,none⟩=some (.int .i64 s.p.n)∧w'.cell? ⟨w.heap.size,1,none⟩=some (.int .i64 s.p.ins)∧w'.cell? ⟨w.heap.size,2,none⟩=some (.int .i64 s.p.outs)∧w'.cell? ⟨w.heap.size,3,none⟩=some (.slice ca s.p.cs.length cc)∧w'.cell? ⟨w.heap.size,4,none⟩=some (.int .i64 s.p.an)∧w'.cell? ⟨w.heap.size,5,none⟩=some (.slice sa s.p.st.length sc)∧w'.cell? ⟨w.heap.size,6,none⟩=some (.int .i64 K)∧w'.cell? ⟨w.heap.size,7,none⟩=some (.int .i64 s.tn)∧w'.cell? ⟨w.heap.size,8,none⟩=some (.slice ta s.tab.length tc)∧w'.cell? ⟨w.heap.size,9,none⟩=some (.slice xa s.ex.length xc)) w'):=zhd fun w' hw=>⟨(R0.ext hw).zc 0 rfl,(R0.ext hw).zc 1 rfl,(R0.ext hw).zc 2 rfl,(R0.ext hw).zc 3 rfl,(R0.ext hw).zc 4 rfl,(R0.ext hw).zc 5 rfl,(R0.ext hw).zc 6 rfl,(R0.ext hw).zc 7 rfl,(R0.ext hw).zc 8 rfl,(R0.ext hw).zc 9 rfl⟩;clear ex R0 R1 hPA hPB hLm HBG;go_wp2;clear t6 l0 d1;refine zE (fun w':World=>w'.cell? ⟨w.heap.size,0,none⟩=some (.int .i64 s.p.n)∧w'.cell? ⟨w.heap.size,1,none⟩=some (.int .i64 s.p.ins)∧w'.cell? ⟨w.heap.size,2,none⟩=some (.int .i64 s.p.outs)∧w'.cell? ⟨w.heap.size,3,none⟩=some (.slice ca s.p.cs.length cc)∧w'.cell? ⟨w.heap.size,4,none⟩=some (.int .i64 s.p.an)∧w'.cell? ⟨w.heap.size,5,none⟩=some (.slice sa s.p.st.length sc)∧w'.cell? ⟨w.heap.size,6,none⟩=some (.int .i64 K)∧w'.cell? ⟨w.heap.size,7,none⟩=some (.int .i64 s.tn)∧w'.cell? ⟨w.heap.size,8,none⟩=some (.slice ta s.tab.length tc)∧w'.cell? ⟨w.heap.size,9,none⟩=some (.slice xa s.ex.length xc)) (fun i=>false) (by kernel_rfl) ?_ (fun hHeld=>?_)
  ·exact KEEP.out _ (zb wr.heap.size wr 1)
  refine zt 0 hHeld ?_;refine zt 1 hHeld ?_;refine zt 2 hHeld ?_;refine zt 3 hHeld ?_;refine zt 4 hHeld ?_;refine zt 6 hHeld ?_;refine zt 7 hHeld ?_;refine zt 8 hHeld ?_;refine zt 9 hHeld ?_;refine zt 10 hHeld ?_;refine zo 5 (fun K hK=>?_)
  (go_simp;go_at_call 90;refine (KPA.out _ (za HEX.out (zb wr.heap.size wr 1))).mono ?_;rintro _ v1 ⟨ra,rfl,hb,hA⟩;have y1:=za (zb wr.heap.size wr 1) hb;obtain ⟨pa,pca,rfl,_⟩:=hA.form;clear hb)
  refine zk hK (KEEP.out _ y1) (fun hHeld=>?_);clear hK K;refine zo 11 (fun K hK=>?_)
  (go_simp;go_at_call 90;refine (KPB.out _ (za HEX.out y1)).mono ?_;rintro _ v2 ⟨rb,rfl,hb,hB⟩;obtain ⟨pb,pcb,rfl,_⟩:=hB.form;have y2:=hb;have hAB:=fun k hk=>(hA.own k hk).2;obtain ⟨vsA,hLA⟩:=hA.ext hb;obtain ⟨vsB,hLB⟩:=hB;have hB5:=Nat.le_trans y1.size hb.size;clear hb)
  refine zk hK (KEEP.out _ (za y1 y2)) (fun hHeld=>?_);clear hK K;refine zo 12 (fun K hK=>?_)
  (refine xS rfl (.tmp 26) (.tmp 32) 146 rfl 36 (.slice none 0 0) 24 Tryz.underlying146 zK rfl _ _ _ _ rfl hLA.row TT pb PB.length pcb vsB rfl ((hLB.lists).form'.mono fun _ _=>trivial) hLB.len hLB.cells.1 hLB.cells.2 (by omega) (by omega) hB5 ?_;intro v7 w7 ho7 hb7 hag7 _;have hL7:=hLA.join hLB hAB ho7 hag7;have hL7f:=hL7.form;rw[List.length_append]at hL7f;obtain ⟨va7,vc7,hv7,_⟩:=hL7f;obtain ⟨nP,hnP⟩:∃n,n=PA.length+PB.length:=⟨_,rfl⟩;rw[←hnP]at hv7;subst hv7;have HNPE:=zhd hnP;clear hnP;have y7:=(za y1 y2).trans hb7)
  refine zk hK (KEEP.out _ y7) (fun hHeld=>?_);clear hK K;refine zt 13 hHeld ?_;refine zz (by kernel_rfl) ?_ _;have HEX7:=zhd (za HEX.out y7);have HR07:=zhd (HR0.out.ext y7);have HR17:=zhd (HR1.out.ext y7);have HL7:=zhd hL7;have HNF:Hid ((∀j,j<(PA++PB).length→aprB s.tab ch u x (nthL (PA++PB) j)=false)→∀i,i<m+1→disF s.tab ch a b i=[]):=zhd fun hj i hi=>by
   by_cases e:i=m
   ·subst e;have h1:=HDM.out;rw[zgD hj]at h1;apply Classical.byContradiction;intro hne;rw[if_neg hne]at h1;cases h1
   ·exact HF.out i (by omega)
  have HYF:Hid (∀i,i<(PA++PB).length→(∀j,j<i→aprB s.tab ch u x (nthL (PA++PB) j)=false)→aprB s.tab ch u x (nthL (PA++PB) i)=true→D=nthL (PA++PB) i∧D≠[]):=zhd fun i hi hj hA=>by
   have h1:=HDM.out;rw[zeL hi hj hA]at h1;by_cases hne:disF s.tab ch a b m=[]
   ·rw[if_pos hne]at h1;cases h1
   ·rw[if_neg hne]at h1;have h2:nthL (PA++PB) i=disF s.tab ch a b m:=by injection h1
    have h3:=HFS.out m hlt HF.out hne;exact ⟨by rw[h3,h2],by rw[h3];exact hne⟩
  have HQQ:=zhd HBM.out.2;have HNP0:Hid (nP=(PA++PB).length):=zhd (by rw[List.length_append];exact HNPE.out);have hPL:nP≤5679521710562:=by have:=HNPE.out;omega
  obtain ⟨P,hP⟩:=zn (PA++PB);rw[←hP]at HL7 HNF HYF HQQ HNP0;rw[←HNP0.out]at HNF HYF;have HNP:=HNP0;clear HNP0;have HLM2:Hid (Value.int .i64 (Lm+1)=.int .i64 (((m+1:Nat):Int)+1)):=zhd (zj (by rw[HLM.out];omega));clear hP HNPE hHeld KEEP hL7 y7 y1 y2 hb7 ho7 hag7 hAB hLA hLB hA HBM HDM KPA KPB hPAl hPBl HEX HR0 HR1 hB5;have ex:=HEX7.out;have R0:=HR07.out;have R1:=HR17.out;go_wp2;go_loopw [12] (fun iv wr=>∃i:Nat,i≤nP∧iv=.int .i64 i∧Hid (∀j,j<i→aprB s.tab ch u x (nthL P j)=false)∧Hid (Lists TT wr (.slice va7 nP vc7) P)∧Below w.heap.size w wr∧Row wr w.heap.size 35 [s.p.n,s.p.ins,s.p.outs,.slice ca s.p.cs.length cc,s.p.an,.slice sa s.p.st.length sc,K,s.tn,.slice ta s.tab.length tc,.slice xa s.ex.length xc]∧Row wr (w.heap.size+1) 38 [.slice a2 ch.length c2]) (fun iv _=>nP - (intOf iv).toNat)
  case atStart=>exact ⟨0,Nat.zero_le _,rfl,zhd fun j hj=>by omega,HL7,ex,R0,R1⟩
  case round=>
   clear ex R0 R1 HEX7 HR07 HR17 HL7;obtain ⟨i,hi,rfl,HJ,HL,ex,R0,R1⟩:=hrel;by_cases hil:i<nP
   case neg=>
    obtain rfl:i=nP:=by omega
    have HN:=zhd (HNF.out HJ.out);go_wp2;go_roundw
    case rel=>exact ⟨m+1,by omega,HLM2.out,HN,ex,R0,R1⟩
    case measure=>(have:=HLM.out;simp[intOf];omega)
   have pq:=zas HL.out (by rw[←HNP.out];exact hil);obtain ⟨rv,cr,ir⟩:=(show Lists TT wr (.slice va7 P.length vc7) P by rw[←HNP.out];exact HL.out).at (.refl _ _) (by rw[←HNP.out];exact hil);obtain ⟨⟨hq0,hq1⟩,hq2⟩:=HQQ.out _ (yg (by rw[←HNP.out];exact hil));have HY:=zhd (HYF.out i hil HJ.out);have HJN:Hid (aprB s.tab ch u x (nthL P i)=false→∀j,j<i+1→aprB s.tab ch u x (nthL P j)=false):=zhd fun h j hj=>by
    by_cases e:j=i
    ·subst e;exact h
    ·exact HJ.out j (by omega)
   obtain ⟨q,hqq⟩:=zn (nthL P i);rw[←hqq]at ir hq0 hq1 hq2 HY HJN;obtain ⟨qa,qc,rfl,_⟩:=ir.form;have KO2:=zhd (fun S3 W h1 h2=>KO.out S3 (.slice qa q.length qc) q hq0 hq1 hq2 W h1 h2);have HIR:=zhd ir;have br:=World.block_lt_of_cell? _ _ cr;have HEX:=zhd ex;have HR0:=zhd R0;have HR1:=zhd R1;obtain ⟨A,hA⟩:=zn (aprB s.tab ch u x q);rw[←hA]at HY HJN;have KO3:Hid (∀W,Below wr.heap.size wr W→Calls Tryz.prog 59 #[.agg #[s.p.n,s.p.ins,s.p.outs,.slice ca s.p.cs.length cc,s.p.an,.slice sa s.p.st.length sc,K,s.tn,.slice ta s.tab.length tc,.slice xa s.ex.length xc],.agg #[.slice a2 ch.length c2],u,x,.slice qa q.length qc] W (Post W fun _ r=>∃o:Int,r=.int .i64 o∧(o=1↔A=true))):=zhd fun W hW=>by rw[hA];exact KO2.out _ W (za ex hW) (ir.ext hW)
   have KEEP:Hid (∀w',Below wr.heap.size wr w'→(fun w':World=>w'.cell? ⟨w.heap.size,0,none⟩=some (.int .i64 s.p.n)∧w'.cell? ⟨w.heap.size,1,none⟩=some (.int .i64 s.p.ins)∧w'.cell? ⟨w.heap.size,2,none⟩=some (.int .i64 s.p.outs)∧w'.cell? ⟨w.heap.size,3,none⟩=some (.slice ca s.p.cs.length cc)∧w'.cell? ⟨w.heap.size,4,none⟩=some (.int .i64 s.p.an)∧w'.cell? ⟨w.heap.size,5,none⟩=some (.slice sa s.p.st.length sc)∧w'.cell? ⟨w.heap.size,6,none⟩=some (.int .i64 K)∧w'.cell? ⟨w.heap.size,7,none⟩=some (.int .i64 s.tn)∧w'.cell? ⟨w.heap.size,8,none⟩=some (.slice ta s.tab.length tc)∧w'.cell? ⟨w.heap.size,9,none⟩=some (.slice xa s.ex.length xc)∧w'.cell? ⟨w.heap.size+1,0,none⟩=some (.slice a2 ch.length c2)∧w'.cell? (adr va7 i)=some (.slice qa q.length qc)) w'):=zhd fun w' hw=>⟨(R0.ext hw).zc 0 rfl,(R0.ext hw).zc 1 rfl,(R0.ext hw).zc 2 rfl,(R0.ext hw).zc 3 rfl,(R0.ext hw).zc 4 rfl,(R0.ext hw).zc 5 rfl,(R0.ext hw).zc 6 rfl,(R0.ext hw).zc 7 rfl,(R0.ext hw).zc 8 rfl,(R0.ext hw).zc 9 rfl,(R1.ext hw).zc 0 rfl,zi cr hw⟩;have HQV:Hid (∀W,Below wr.heap.size wr W→W.cell? (adr va7 i)=some (.slice qa q.length qc)∧Ints TT W (.slice qa q.length qc) q):=zhd fun W hW=>⟨zi cr hW,ir.ext hW⟩;clear ex R0 R1 ir cr br hqq hA KO2 HIR;go_wp2;refine zE (fun w':World=>w'.cell? ⟨w.heap.size,0,none⟩=some (.int .i64 s.p.n)∧w'.cell? ⟨w.heap.size,1,none⟩=some (.int .i64 s.p.ins)∧w'.cell? ⟨w.heap.size,2,none⟩=some (.int .i64 s.p.outs)∧w'.cell? ⟨w.heap.size,3,none⟩=some (.slice ca s.p.cs.length cc)∧w'.cell? ⟨w.heap.size,4,none⟩=some (.int .i64 s.p.an)∧w'.cell? ⟨w.heap.size,5,none⟩=some (.slice sa s.p.st.length sc)∧w'.cell? ⟨w.heap.size,6,none⟩=some (.int .i64 K)∧w'.cell? ⟨w.heap.size,7,none⟩=some (.int .i64 s.tn)∧w'.cell? ⟨w.heap.size,8,none⟩=some (.slice ta s.tab.length tc)∧w'.cell? ⟨w.heap.size,9,none⟩=some (.slice xa s.ex.length xc)∧w'.cell? ⟨w.heap.size+1,0,none⟩=some (.slice a2 ch.length c2)∧w'.cell? (adr va7 i)=some (.slice qa q.length qc)) (fun i=>false) (by kernel_rfl) ?_ (fun hHeld=>?_)
   ·exact KEEP.out _ (zb wr.heap.size wr 1)
   refine zt 0 hHeld ?_;refine zt 1 hHeld ?_;refine zt 2 hHeld ?_;refine zt 3 hHeld ?_;refine zt 4 hHeld ?_;refine zt 5 hHeld ?_;refine zt 6 hHeld ?_;refine zt 7 hHeld ?_;refine zo 8 (fun K hK=>?_)
   (go_simp;go_at_call 59;refine (KO3.out _ (zb wr.heap.size wr 1)).mono ?_;rintro _ v8 ⟨_,rfl,hb,o,rfl,ho⟩;have y8:=za (zb wr.heap.size wr 1) hb;clear hb)
   refine zk hK (KEEP.out _ y8) (fun hHeld=>?_);clear hK K;refine zt 9 hHeld ?_;refine zz (by kernel_rfl) ?_ _;have HEX8:=zhd (za HEX.out y8);have R0:=HR0.out.ext y8;have R1:=HR1.out.ext y8;have HL8:=zhd (HL.out.ext y8);obtain ⟨cq,HIQ⟩:=HQV.out _ y8;have bq:=World.block_lt_of_cell? _ _ cq;clear hHeld KEEP KO3 HQV;cases A with
   | true=>
    have d8:(o==1)=true:=by simp[ho.2 rfl]
    obtain ⟨e1,e2⟩:=HY.out rfl;have HF1:Hid (FirR D v8 (.tuple #[.slice qa q.length qc,.bool true])):=zhd ⟨_,by rw[decide_eq_true e2],by rw[e1];exact HIQ⟩;clear ho e1 e2 HIQ;go_wp2;go_ret2;exact .mk HEX8.out HF1.out
   | false=>
    have d8:(o==1)=false:=by rw[beq_eq_false_iff_ne];intro h;have:=ho.1 h;cases this
    have HJ2:=zhd (HJN.out rfl);clear ho HIQ cq bq;have ex:=HEX8.out;go_wp2;go_roundw
    case rel=>exact ⟨i+1,by omega,by go_num,HJ2,HL8,ex,R0,R1⟩
    case measure=>simp[intOf];omega
theorem zcI {S S2:Nat→Prop} {w:World} {v vch:Value} {s:SysF} {ch:List Int} (u' x':Int) (h:SysV S w v s) (hf:SmallP s.p) (h2:Ints S2 w vch ch) (hm:s.tab.length≤120):
  Calls Tryz.prog 21 #[v,.agg #[vch],u',x'] w (Post w (DisR s ch u' x')):=by
 have KP:Hid (∀W,Below w.heap.size w W→Calls Tryz.prog 55 #[v,.agg #[vch],u',x'] W (Post W fun _ r=>r=.int .i64 (pairE s ch u' x'))):=zhd fun W hW=>Yr u' x' (h.ext hW) hf (h2.ext hW);have KF:Hid (pairE s ch u' x'=0→u'≠x'→∀W,Below w.heap.size w W→Calls Tryz.prog 56 #[v,.agg #[vch],u',x'] W (Post W (FirR (disL s.tab ch s.K (min u'.toNat x'.toNat) (max u'.toNat x'.toNat))))):=zhd fun h0 hne W hW=>by
  obtain ⟨hr0,u,x,rfl,rfl,hu,hx,_,_⟩:=zcv h0;obtain ⟨hg,hl⟩:=yc h hr0;rw[Int.toNat_natCast,Int.toNat_natCast];exact Ql (h.ext hW) hg (h2.ext hW) hl hm hu hx (by omega)
 have HY:Hid (∀w' r,pairE s ch u' x'=0→u'≠x'→FirR (disL s.tab ch s.K (min u'.toNat x'.toNat) (max u'.toNat x'.toNat)) w' r→∃a n c b,r=.tuple #[.slice a n c,.bool b]∧DisR s ch u' x' w' (.tuple #[.slice a n c,.bool b,.int .i64 0])):=zhd fun w' r h0 hne hr=>by
  obtain ⟨rv,rfl,hi⟩:=hr;obtain ⟨a,c,rfl,_⟩:=hi.form;refine ⟨a,_,c,_,rfl,.inl ⟨h0,.slice a (disL s.tab ch s.K (min u'.toNat x'.toNat) (max u'.toNat x'.toNat)).length c,?_,?_⟩⟩
  ·have:decide (u'≠x'∧disL s.tab ch s.K (min u'.toNat x'.toNat) (max u'.toNat x'.toNat)≠[])=decide (disL s.tab ch s.K (min u'.toNat x'.toNat) (max u'.toNat x'.toNat)≠[]):=by simp[hne]
   rw[this]
  ·rw[if_neg hne];exact hi
 have HS:Hid (∀w',pairE s ch u' x'=0→u'=x'→DisR s ch u' x' w' (.tuple #[.slice none 0 0,.bool false,.int .i64 0])):=zhd fun w' h0 he=>.inl ⟨h0,.slice none 0 0,by rw[decide_eq_false (fun h=>h.1 he)],by rw[if_pos he];exact Ints.nil _ _⟩;have HE:Hid (∀w',pairE s ch u' x'≠0→DisR s ch u' x' w' (.tuple #[.slice none 0 0,.bool false,pairE s ch u' x'])):=zhd fun w' h0=>.inr ⟨h0,rfl⟩;obtain ⟨DR,hDR⟩:=zn (DisR s ch u' x');rw[←hDR]at HY HS HE ⊢;obtain ⟨FR,hFR⟩:=zn (FirR (disL s.tab ch s.K (min u'.toNat x'.toNat) (max u'.toNat x'.toNat)));rw[←hFR]at KF HY;obtain ⟨e,hee⟩:=zn (pairE s ch u' x');rw[←hee]at KP KF HY HS HE;obtain ⟨ca,cc,sa,sc,ta,tc,xa,xc,rfl,hc,hs,ht,hx⟩:=h.zf;obtain ⟨a2,c2,rfl,_⟩:=h2.form;obtain ⟨ex,R0,R1⟩:=zb2 w [s.p.n,s.p.ins,s.p.outs,.slice ca s.p.cs.length cc,s.p.an,.slice sa s.p.st.length sc,s.p.rounds,s.tn,.slice ta s.tab.length tc,.slice xa s.ex.length xc] [.slice a2 ch.length c2] 35 38;clear hc hs ht hx h2 hf hm hee hDR hFR;go_enter Tryz.func21,Tryz.ntmps21;obtain ⟨t0,t1,t2,t3,t4,t5,t6,t7,t8,t9⟩:=R0.ten;have l0:=R0.lt;have r0:=R1.zc 0 rfl;have l1:=R1.lt;go_wp2_with fail;refine (KP.out _ ex).mono ?_;rintro _ w1 ⟨_,rfl,hb,rfl⟩;replace R0:=R0.ext hb;replace R1:=R1.ext hb;replace ex:=za ex hb;clear hb KP t0 t1 t2 t3 t4 t5 t6 t7 t8 t9 l0 r0 l1;by_cases h0:e=0
 case neg=>
  have RE:=zhd (HE.out w1 h0);have d0:(e !=0)=true:=by simp[h0]
  clear h0 HE HS HY KF;go_wp2;go_ret3;exact .mk ex RE.out
 have KF1:=zhd (KF.out h0);have HY1:=zhd (fun w' r=>HY.out w' r h0);have HS1:=zhd (fun w'=>HS.out w' h0);have d0:(e !=0)=false:=by simp[h0]
 clear h0 HE HS HY KF;by_cases hux:u'=x'
 ·have RE:=zhd (HS1.out w1 hux);have d1:(u'==x')=true:=by simp[hux]
  clear hux HS1 HY1 KF1;go_wp2;go_ret3;exact .mk ex RE.out
 have d1:(u'==x')=false:=by simp[hux]
 have KF2:=zhd (KF1.out hux);have HY2:=zhd (fun w' r=>HY1.out w' r hux);obtain ⟨t0,t1,t2,t3,t4,t5,t6,t7,t8,t9⟩:=R0.ten;have l0:=R0.lt;have r0:=R1.zc 0 rfl;have l1:=R1.lt;clear hux HS1 HY1 KF1;go_wp2_with fail;refine (KF2.out _ ex).mono ?_;rintro _ w2 ⟨r,rfl,hb,hr⟩;obtain ⟨a,n,c,b,rfl,hd⟩:=HY2.out _ _ hr;have RE:=zhd hd;replace ex:=za ex hb;clear hb hr hd KF2 HY2 t0 t1 t2 t3 t4 t5 t6 t7 t8 t9 l0 r0 l1;go_wp2;go_ret3;exact .mk ex RE.out
end Go.Proofs.YtiabbjolepnjkaaGreat
