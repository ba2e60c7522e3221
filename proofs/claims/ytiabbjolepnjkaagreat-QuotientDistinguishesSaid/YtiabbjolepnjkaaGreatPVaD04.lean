/- Part of the proof that the laws answer true for every input. -/
import Derived.Test.YtiabbjolepnjkaaGreatPVaD03
set_option linter.unusedSimpArgs false
set_option linter.unnecessarySimpa false
set_option linter.unusedVariables false
set_option maxRecDepth 100000
set_option maxHeartbeats 40000000
namespace Go.Proofs.YtiabbjolepnjkaaGreat
open Go.RowKit
attribute [local go_sem ↓] Go.wp_at_zero Go.wp_at_succ
def pTo (T:List (List Int)) (m v k:Nat):List (List Int):=(List.range k).flatMap fun u=>if hrsB T u v then (pthsR T m u).map ((v:Int)::·) else []
theorem zgB (T:List (List Int)) (m v:Nat):pTo T m v T.length=pthsR T (m+1) v:=rfl
theorem zfA {T:List (List Int)} {m v k:Nat} (h:hrsB T k v=false):pTo T m v (k+1)=pTo T m v k:=by
 unfold pTo;rw[List.range_succ,List.flatMap_append];simp[h]
theorem zf7 {T:List (List Int)} {m v k:Nat} (h:hrsB T k v=true):pTo T m v (k+1)=pTo T m v k++(pthsR T m k).map ((v:Int)::·):=by
 unfold pTo;rw[List.range_succ,List.flatMap_append];simp[h]
theorem zgf (T:List (List Int)) (m v:Nat):∀{k j:Nat},k≤j→(pTo T m v k).length≤(pTo T m v j).length:=fun {k j} h=>by
 obtain ⟨d,rfl⟩:∃d,j=k+d:=⟨j - k,by omega⟩;unfold pTo;rw[List.range_add,List.flatMap_append,List.length_append];omega
theorem zeB {α:Type} (l:List α) {i:Nat} (h:i<l.length):l.take (i+1)=l.take i++[l[i]]:=(List.take_append_getElem h).symm
theorem zgN {T:List (List Int)} {m v i:Nat} (A:List (List Int)) (h:i<(pthsR T m v).length) (x:Int):A++((pthsR T m v).take (i+1)).map (x::·)=(A++((pthsR T m v).take i).map (x::·))++[x::nthL (pthsR T m v) i]:=by
 rw[zeB _ h,List.map_append,←List.append_assoc,zV h];rfl
theorem zaZ {N K:Nat} {T:List (List Int)} (hT:TabOK N K T) {v:Nat} (hv:v<T.length) (n:Nat) (hn:T.length=n+1) {f:Nat→Nat} {M:Nat} (hf:∀u,u<T.length→f u≤M):∀k,k≤T.length→((List.range k).flatMap fun u=>if hrsB T u v then List.replicate (f u) 0 else []).length≤(if v<k then k - 1 else k) * M
 | 0,_=>by simp
 | k+1,hk=>by
  have ih:=zaZ hT hv n hn hf k (by omega);rw[List.range_succ,List.flatMap_append,List.length_append];have hfk:=hf k (by omega);cases hh:hrsB T k v with
  | false=>
   simp only[List.flatMap_cons,List.flatMap_nil,hh];refine Nat.le_trans (show _≤_ from ?_) (Nat.mul_le_mul_right M (show (if v<k then k - 1 else k)≤(if v<k+1 then k+1 - 1 else k+1) by split<;>split<;>omega));simpa using ih
  | true=>
   have hne:v≠k:=fun e=>by
    subst e;have:=ZS hT hv hv hh;omega
   simp only[List.flatMap_cons,List.flatMap_nil,hh,if_true,List.append_nil,List.length_replicate];have:(if v<k+1 then k+1 - 1 else k+1)=(if v<k then k - 1 else k)+1:=by
    by_cases h:v<k
    ·rw[if_pos h,if_pos (by omega)];omega
    ·rw[if_neg h,if_neg (by omega)]
   rw[this,Nat.add_mul,Nat.one_mul];omega
theorem QQ {N K:Nat} {T:List (List Int)} (hT:TabOK N K T) (h120:T.length≤120):∀(m:Nat) {v:Nat},v<T.length→(pthsR T m v).length≤119 ^ m
 | 0,v,_=>by simp[pthsR]
 | m+1,v,hv=>by
  have h:=zaZ hT hv (T.length - 1) (by omega) (f:=fun u=>(pthsR T m u).length) (M:=119 ^ m) (fun u hu=>QQ hT h120 m hu) T.length (Nat.le_refl _);rw[if_pos hv]at h;have e:(pthsR T (m+1) v).length=((List.range T.length).flatMap fun u=>if hrsB T u v then List.replicate ((pthsR T m u).length) 0 else []).length:=by
   rw[show pthsR T (m+1) v=(List.range T.length).flatMap fun u=>if hrsB T u v then (pthsR T m u).map ((v:Int)::·) else [] from rfl,List.length_flatMap,List.length_flatMap];congr 1
   apply List.map_congr_left;intro u _;split<;>simp
  rw[e];refine Nat.le_trans h ?_;rw[Nat.pow_succ,Nat.mul_comm];exact Nat.mul_le_mul_left _ (by omega)
theorem Yk {N K:Nat} {T:List (List Int)} (hT:TabOK N K T) (h120:T.length≤120) {m v:Nat} (hm:m≤6) (hv:v<T.length):(pthsR T m v).length≤2839760855281:=by
 refine Nat.le_trans (QQ hT h120 m hv) ?_;exact Nat.le_trans (Nat.pow_le_pow_right (by decide) hm) (by decide)
theorem xh {T:List (List Int)}:∀{m v:Nat} {q:List Int},v<T.length→q∈pthsR T m v→q.length=m+1∧∀k,k<q.length→∃y:Nat,nth q k=y∧y<T.length
 | 0,v,q,hv,h=>by
  have:q=[(v:Int)]:=by simpa[pthsR] using h
  subst this;refine ⟨rfl,fun k hk=>?_⟩;obtain rfl:k=0:=by simpa using hk
  exact ⟨v,rfl,hv⟩
 | m+1,v,q,hv,h=>by
  rw[show pthsR T (m+1) v=(List.range T.length).flatMap fun u=>if hrsB T u v then (pthsR T m u).map ((v:Int)::·) else [] from rfl]at h;obtain ⟨u,hu,h1⟩:=List.mem_flatMap.1 h;rw[List.mem_range]at hu;split at h1
  ·obtain ⟨r,hr,rfl⟩:=List.mem_map.1 h1;obtain ⟨a,b⟩:=xh hu hr;refine ⟨by rw[List.length_cons,a],fun k hk=>?_⟩;cases k with
   | zero=>exact ⟨v,rfl,hv⟩
   | succ k=>exact b k (by simpa using hk)
  ·cases h1
theorem zgc {T:List (List Int)} (hT:T.length≤100000) {m v:Nat} {q:List Int} (hv:v<T.length) (h:q∈pthsR T m v):∀x∈q,WF x:=fun x hx=>by
 obtain ⟨i,hi,rfl⟩:=List.getElem_of_mem hx;obtain ⟨y,h1,h2⟩:=(xh hv h).2 i hi;rw[yv hi]at h1;rw[h1];exact WF.small (by omega)
def OwnP (B:Nat) (l:List (List Int)) (w':World) (r:Value):Prop:=∃vs,OwnList 36 B w' r vs l
theorem OwnP.ext {B:Nat} {l:List (List Int)} {w w':World} {r:Value} (h:OwnP B l w r) (hw:Below w.heap.size w w'):OwnP B l w' r:=by
 obtain ⟨vs,h⟩:=h;exact ⟨vs,h.ext hw⟩
theorem OwnP.form {B:Nat} {l:List (List Int)} {w:World} {r:Value} (h:OwnP B l w r):∃a c,r=.slice a l.length c∧∀k,r.ownBlock=some k→B≤k∧k<w.heap.size:=by
 obtain ⟨vs,h⟩:=h;rcases h.row.2 with ⟨rfl,hn0⟩ | ⟨g,cap,cur,rfl,_⟩
 ·exact ⟨none,0,by rw[hn0],fun k hk=>by simp[Value.ownBlock]at hk⟩
 ·exact ⟨_,cap,rfl,fun k hk=>h.row.lt k hk⟩
theorem OwnP.own {B:Nat} {l:List (List Int)} {w:World} {r:Value} (h:OwnP B l w r):∀k,r.ownBlock=some k→B≤k∧k<w.heap.size:=by
 obtain ⟨a,c,_,h1⟩:=h.form;exact h1
theorem OwnP.len {B n c:Nat} {a:Option Addr} {l:List (List Int)} {w:World} (h:OwnP B l w (.slice a n c)):n=l.length:=by
 obtain ⟨a',c',e,_⟩:=h.form;cases e;rfl
theorem OwnP.low {B B':Nat} {l:List (List Int)} {w:World} {r:Value} (h:OwnP B l w r) (hb:B'≤B):OwnP B' l w r:=by
 obtain ⟨vs,ho,hr⟩:=h;refine ⟨vs,⟨ho.1,?_⟩,fun j hj=>(hr j hj).mono fun b h1=>⟨by omega,h1.2⟩⟩;rcases ho.2 with hn | ⟨g,cap,cur,rfl,h1,h2,r⟩
 ·exact .inl hn
 ·exact .inr ⟨g,cap,cur,rfl,Nat.le_trans hb h1,h2,r⟩
theorem zas {S:Nat→Prop} {w:World} {a:Option Addr} {n c:Nat} {l:List (List Int)} (h:Lists S w (.slice a n c) l) {k:Nat} (hk:k<l.length) (W:World):(Instr.indexAt 146 (.slice a n c) (.int .i64 k)).run Tryz.prog W=.ok (.pointer (some (adr a k))) W:=by
 obtain ⟨_,_,hee,ad,_⟩:=h.form;cases hee;obtain ⟨i0,hi,_,hz1,_⟩:=info_parts zK;exact zF Tryz.underlying146 hi hz1 ad k hk W
theorem OwnP.nil (B:Nat) (w:World):OwnP B [] w (.slice none 0 0):=⟨[],OwnList.nil _ _ _⟩
theorem OwnP.one {w W:World} {B g1 g2:Nat} {x:Int} (hx:WF x) (R1:Row W g1 3 [x]) (R2:Row W g2 36 [.slice (some ⟨g1,0,none⟩) 1 1]) (h1:B≤g1) (h2:B≤g2) (hne:g1≠g2):OwnP B [[x]] W (.slice (some ⟨g2,0,none⟩) 1 1):=by
 refine ⟨[.slice (some ⟨g1,0,none⟩) 1 1],R2.owns h2 (by simp[maxLen]),fun j hj=>?_⟩;obtain rfl:j=0:=by simpa using hj
 exact (Row.ints (l:=[x]) R1 (by simp[maxLen]) (by intro y hy;rw[List.mem_singleton.1 hy];exact hx)).mono fun b hb=>by subst hb;exact ⟨h1,fun e=>hne (by simpa[Value.ownBlock] using e.symm)⟩
def PthC (v:Value) (w:World) (T:List (List Int)) (m:Nat):Prop:=∀u,u<T.length→∀W,Below w.heap.size w W→Calls Tryz.prog 90 #[v,u,.int .i64 ((m:Int)+1)] W (Post W (OwnP W.heap.size (pthsR T m u)))
theorem zbr {S:Nat→Prop} {w:World} {v:Value} {s:SysF} (h:SysV S w v s) (hm:s.tab.length≤120):PthC v w s.tab 0:=by
 intro u hu W hW;replace h:=h.ext hW;clear hW w;obtain ⟨w,rfl⟩:=zn W;obtain ⟨ca,cc,sa,sc,ta,tc,xa,xc,rfl,hc,hs,ht,hx⟩:=h.zf;obtain ⟨ex,R0⟩:=zb1 w [s.p.n,s.p.ins,s.p.outs,.slice ca s.p.cs.length cc,s.p.an,.slice sa s.p.st.length sc,s.p.rounds,s.tn,.slice ta s.tab.length tc,.slice xa s.ex.length xc] 35;have e1:((0:Nat):Int)+1=1:=rfl;rw[e1,show pthsR s.tab 0 u=[[(u:Int)]] from rfl];have ex2:=zg (zg ex (.cells #[u] 3)) (.cells #[.slice (some ⟨w.heap.size+1,0,none⟩) 1 1] 36);have R1:=(zh (w.alloc (.cells #[s.p.n,s.p.ins,s.p.outs,.slice ca s.p.cs.length cc,s.p.an,.slice sa s.p.st.length sc,s.p.rounds,s.tn,.slice ta s.tab.length tc,.slice xa s.ex.length xc] 35)) [u] 3).alloc (.cells #[.slice (some ⟨w.heap.size+1,0,none⟩) 1 1] 36);have R2:=zh ((w.alloc (.cells #[s.p.n,s.p.ins,s.p.outs,.slice ca s.p.cs.length cc,s.p.an,.slice sa s.p.st.length sc,s.p.rounds,s.tn,.slice ta s.tab.length tc,.slice xa s.ex.length xc] 35)).alloc (.cells #[u] 3)) [.slice (some ⟨w.heap.size+1,0,none⟩) 1 1] 36;simp only[World.size_alloc]at R1 R2;have HO:=zhd (OwnP.one (w:=w) (B:=w.heap.size) (WF.small (x:=(u:Int)) (by omega)) R1 R2 (by omega) (by omega) (by omega));clear hc hs ht hx ex R0 R1 R2;go_enter Tryz.func90,Tryz.ntmps90;go_wp2;go_ret;exact .mk ex2 HO.out
theorem zbH {S:Nat→Prop} {w:World} {v:Value} {s:SysF} {m:Nat} (h:SysV S w v s) (hg:GoodS s s.N s.K) (hm:s.tab.length≤120) (h6:m≤5) (KM:PthC v w s.tab m):PthC v w s.tab (m+1):=by
 intro u hu W hW;replace h:=h.ext hW;replace KM:Hid (∀u,u<s.tab.length→∀W',Below W.heap.size W W'→Calls Tryz.prog 90 #[v,u,.int .i64 ((m:Int)+1)] W' (Post W' (OwnP W'.heap.size (pthsR s.tab m u)))):=zhd fun u hu W' hW'=>KM u hu W' (za hW hW');clear hW w;obtain ⟨w,rfl⟩:=zn W;have KH:Hid (∀k,k<s.tab.length→∀W,Below w.heap.size w W→Calls Tryz.prog 91 #[v,k,u] W (Post W fun _ r=>r=.bool (hrsB s.tab k u))):=zhd fun k hk W hW=>xj (h.ext hW) hg hk hu;have HTB:=zhd hg.tab;obtain ⟨ca,cc,sa,sc,ta,tc,xa,xc,rfl,hc,hs,ht,hx⟩:=h.zf;obtain ⟨ex,R0⟩:=zb1 w [s.p.n,s.p.ins,s.p.outs,.slice ca s.p.cs.length cc,s.p.an,.slice sa s.p.st.length sc,s.p.rounds,s.tn,.slice ta s.tab.length tc,.slice xa s.ex.length xc] 35;obtain ⟨n,hn⟩:=zn s.tab.length;obtain ⟨T,hT⟩:=zn s.tab;have HNT:Hid (n=T.length):=zhd (by rw[hn,hT]);rw[←hn]at ex R0 KM KH hm hu ⊢;rw[←hT]at KM KH HTB ⊢;have HBG:Hid (∀x,x<n→(pthsR T m x).length≤2839760855281∧(∀q∈pthsR T m x,q.length=m+1∧∀y∈q,WF y)):=zhd fun x hx=>by
  have:=HNT.out;exact ⟨Yk HTB.out (by omega) (by omega) (by omega),fun q hq=>⟨(xh (by omega) hq).1,zgc (by omega) (by omega) hq⟩⟩
 have HTOT:Hid (∀x,x≤n→(pTo T m u x).length≤2839760855281):=zhd fun x hx=>by
  have:=HNT.out;refine Nat.le_trans (zgf T m u (j:=n) hx) ?_;rw[this,zgB];exact Yk HTB.out (by omega) (by omega) (by omega)
 have HALL:Hid (pTo T m u n=pthsR T (m+1) u):=zhd (by rw[HNT.out];rfl);obtain ⟨L,hL⟩:∃L:Int,L=((m+1:Nat):Int)+1:=⟨_,rfl⟩;obtain ⟨L1,hL1⟩:∃L1:Int,L1=(m:Int)+1:=⟨_,rfl⟩;rw[←hL1]at KM;rw[←hL,←HALL.out];have d0:(L==1)=false:=by rw[beq_eq_false_iff_ne];omega
 have dW:wrap64 (L - 1)=L1:=by rw[IntWalk.wrap64_in _ (by omega)];omega
 have hWFu:WF (u:Int):=WF.small (by omega);clear hc hs ht hx hL hL1 hg hn hT;go_enter Tryz.func90,Tryz.ntmps90;go_wp2;clear d0;go_loopw [7,8,9,10,11] (fun ov k _ _ _ wr=>∃(x:Nat) (oa:Option Addr) (ol oc:Nat),x≤n∧k=.int .i64 x∧ov=.slice oa ol oc∧Hid (OwnP (w.heap.size+1) (pTo T m u x) wr (.slice oa ol oc))∧Below w.heap.size w wr∧Row wr w.heap.size 35 [s.p.n,s.p.ins,s.p.outs,.slice ca s.p.cs.length cc,s.p.an,.slice sa s.p.st.length sc,s.p.rounds,s.tn,.slice ta n tc,.slice xa s.ex.length xc]) (fun _ k _ _ _ _=>n - (intOf k).toNat)
 case atStart=>exact ⟨0,none,0,0,Nat.zero_le _,rfl,rfl,zhd (OwnP.nil _ _),ex,R0⟩
 case round=>
  clear ex R0;obtain ⟨x,oa,ol,oc,hx,rfl,rfl,HO,ex,R0⟩:=hrel;have t8:=R0.zc 8 rfl;have l0:=R0.lt;by_cases hlt:x<n
  case neg=>
   obtain rfl:x=n:=by omega
   have HO2:Hid (OwnP w.heap.size (pTo T m u x) wr (.slice oa ol oc)):=zhd (HO.out.low (by omega));go_wp2;go_ret;exact .mk ex HO2.out
  have KH2:=zhd (KH.out x hlt wr ex);have KM2:=zhd (KM.out x hlt);have HSK:=zhd (zfA (T:=T) (m:=m) (v:=u) (k:=x));have HHT:=zhd (zf7 (T:=T) (m:=m) (v:=u) (k:=x));obtain ⟨b,hb⟩:=zn (hrsB T x u);rw[←hb]at KH2 HSK HHT;clear hb t8;obtain ⟨t0,t1,t2,t3,t4,t5,t6,t7,t8,t9⟩:=R0.ten;go_wp2_with fail;refine KH2.out.mono ?_;rintro _ w1 ⟨_,rfl,hb,rfl⟩;replace R0:=R0.ext hb;replace ex:=za ex hb;replace HO:=zhd (HO.out.ext hb);clear hb KH2 t0 t1 t2 t3 t4 t5 t6 t7 t8 t9 l0;cases b with
  | false=>
   rw[←HSK.out rfl]at HO;go_wp2;go_roundw
   case rel=>exact ⟨x+1,_,_,_,by omega,by go_num,rfl,HO,ex,R0⟩
   case measure=>simp[intOf];omega
  | true=>
  have HHT2:=zhd (HHT.out rfl);have HBX:=zhd (HBG.out x hlt);have HTX:=zhd (HTOT.out (x+1) hlt);rw[HHT2.out]at HTX;obtain ⟨A,hA⟩:=zn (pTo T m u x);obtain ⟨P,hP⟩:=zn (pthsR T m x);rw[←hA]at HO HTX HHT2;rw[←hP]at KM2 HTX HBX HHT2;have HIN:Hid (∀i,i<P.length→A++(P.take (i+1)).map ((u:Int)::·)=(A++(P.take i).map ((u:Int)::·))++[(u:Int)::nthL P i]):=zhd fun i hi=>by
   rw[hP]at hi ⊢;exact zgN _ hi _
  clear hA hP HSK HHT;obtain ⟨t0,t1,t2,t3,t4,t5,t6,t7,t8,t9⟩:=R0.ten;have l0:=R0.lt;go_wp2_with fail;refine (KM2.out _ ex).mono ?_;rintro _ w2 ⟨pv,rfl,hb,hp⟩;obtain ⟨pa,pc,rfl,_⟩:=hp.form;obtain ⟨pvs,hpl⟩:=hp;have HPL:=zhd hpl.lists.block;have hOB:∀k,(Value.slice oa ol oc).ownBlock=some k→k<w1.heap.size:=fun k hk=>(HO.out.own k hk).2;replace R0:=R0.ext hb;have hsz:=ex.size;have hsz2:=hb.size;replace ex:=za ex hb;replace HO:=zhd (HO.out.ext hb);obtain ⟨N1,hN1⟩:=zn w1.heap.size;obtain ⟨N2,hN2⟩:=zn w2.heap.size;rw[←hN1]at HPL hsz hOB hsz2;rw[←hN2]at HPL hsz2;have hN2':N2≤w2.heap.size:=by omega
  have HOB:Hid (∀k,(Value.slice oa ol oc).ownBlock=some k→k<N1∨N2≤k):=zhd fun k hk=>.inl (hOB k hk);have hpn:P.length≤2839760855281:=HBX.out.1;clear hb hpl hN1 hN2 KM2 hOB t0 t1 t2 t3 t4 t5 t6 t7 t8 t9 l0;go_wp2;go_loopw [7,10,11] (fun ov k _ wr=>∃(i:Nat) (oa:Option Addr) (ol oc:Nat),i≤P.length∧k=.int .i64 i∧ov=.slice oa ol oc∧Hid (OwnP (w.heap.size+1) (A++(P.take i).map ((u:Int)::·)) wr (.slice oa ol oc))∧Hid (∀k,(Value.slice oa ol oc).ownBlock=some k→k<N1∨N2≤k)∧Hid (Lists (fun b=>N1≤b∧b<N2) wr (.slice pa P.length pc) P)∧N2≤wr.heap.size∧Below w.heap.size w wr∧Row wr w.heap.size 35 [s.p.n,s.p.ins,s.p.outs,.slice ca s.p.cs.length cc,s.p.an,.slice sa s.p.st.length sc,s.p.rounds,s.tn,.slice ta n tc,.slice xa s.ex.length xc]) (fun _ k _ _=>P.length - (intOf k).toNat)
  case atStart=>exact ⟨0,oa,ol,oc,Nat.zero_le _,rfl,rfl,zhd (by rw[List.take_zero,List.map_nil,List.append_nil];exact HO.out),HOB,HPL,hN2',ex,R0⟩
  case round=>
   clear ex R0 HO HOB HPL hN2';obtain ⟨i,oa,ol,oc,hi,rfl,rfl,HO,HOB,HPL,hN2,ex,R0⟩:=hrel;by_cases hil:i<P.length
   case neg=>
    obtain rfl:i=P.length:=by omega
    rw[List.take_length,←HHT2.out]at HO;go_wp2;go_roundw
    case rel=>exact ⟨x+1,_,_,_,by omega,by go_num,rfl,HO,ex,R0⟩
    case measure=>simp[intOf];omega
   have HINi:=zhd (HIN.out i hil);have hlen:(A++(P.take i).map ((u:Int)::·)).length+1≤2839760855281:=by
    have h1:=HTX.out;rw[List.length_append,List.length_map]at h1 ⊢;rw[List.length_take];omega
   obtain ⟨acc,hacc⟩:=zn (A++(P.take i).map ((u:Int)::·));rw[←hacc]at HO hlen HINi;have hol:=HO.out.len;subst hol;have pq:=zas HPL.out hil;obtain ⟨rv,cr,ir⟩:=HPL.out.at (.refl _ _) hil;obtain ⟨hrl,hrw⟩:=HBX.out.2 _ (yg hil);obtain ⟨rl,hrll⟩:=zn (nthL P i);rw[←hrll]at ir hrl hrw HINi;obtain ⟨ra,rc,rfl,_⟩:=ir.form;have br:=World.block_lt_of_cell? _ _ cr;have eA:=ze wr (.cells #[u] 3);have HRI:=zhd (ir.ext eA);have HXO:=zhd ((zh wr [u] 3).owns (base:=wr.heap.size) (Nat.le_refl _) (by simp[maxLen]));have HBY:Hid ((1+rl.length) * 8≤140737488355328):=zhd (by omega);have HBN:Hid (1+rl.length≤9223372036854775807):=zhd (by omega);have HXB:Hid (wr.heap.size≤(wr.alloc (.cells #[u] 3)).heap.size):=zhd (by simp);have HW3:Hid (∀w3 v3,w3.ownsRow wr.heap.size 3 1 v3 (1+rl.length) ([Value.int .i64 u]++rl.map (Value.int .i64))→Below wr.heap.size (wr.alloc (.cells #[u] 3)) w3→Ints (fun b=>wr.heap.size≤b) w3 v3 ((u:Int)::rl)∧Below wr.heap.size wr w3):=zhd fun w3 v3 ho hb3=>by
    refine ⟨?_,eA.trans hb3⟩;have:w3.ownsRow wr.heap.size 3 1 v3 ((u:Int)::rl).length (((u:Int)::rl).map (Value.int .i64)):=by rw[List.length_cons,Nat.add_comm];exact ho
    exact Ints.of_own this fun y hy=>by
     rcases List.mem_cons.1 hy with e | hy
     ·rw[e];exact hWFu
     ·exact hrw y hy
   have hszi:=R0.lt;have HO3:Hid (∀w3,Below wr.heap.size wr w3→OwnList 36 (w.heap.size+1) w3 (.slice oa acc.length oc) HO.out.choose acc):=zhd fun w3 hb=>HO.out.choose_spec.ext hb;have HOW:=zhd HO.out.own;clear hacc hrll ir hrw hrl;go_wp2_with (first
    | (at_builtin;refine yF rfl (.tmp 44) (.tmp 48) 36 rfl 3 _ 8 Tryz.underlying36 zG rfl wr.heap.size (.slice (some ⟨wr.heap.size,0,none⟩) 1 1) 1 [u] rfl HXO.out (fun _=>True) ra rl.length rc (rl.map (Value.int .i64)) rfl ((zdO HRI.out).mono fun _ _=>trivial) (by simp) (yf HRI.out (.refl _ _)) (xl rl) HBY.out HBN.out HXB.out ?_;intro v3 w3 hown3 hb3 hag3 hv3;obtain ⟨h3i,h3s⟩:=HW3.out w3 v3 hown3 hb3;have h3f:=h3i.form;rw[List.length_cons]at h3f;obtain ⟨v3a,v3c,rfl,_⟩:=h3f;have hz3:=h3s.size)
    | (at_builtin;refine zZ rfl (.tmp 43) (.tmp 50) 146 rfl 36 _ 24 Tryz.underlying146 zK rfl (w.heap.size+1) _ _ _ rfl (HO3.out w3 h3s).row (.slice v3a (rl.length+1) v3c) rfl rfl (by omega) (by omega) (by omega) ?_;intro g5 c5 w5 hown5 hbel5 hag5 hat5))
   have h5:=(HO3.out w3 h3s).push (by simpa using hown5) hag5 (fun k hk=>by cases hk;exact hat5) (h3i.mono fun b hb=>⟨by omega,fun e=>by have:=(HOW.out b e).2;omega⟩);have HO5:Hid (OwnP (w.heap.size+1) (A++(P.take (i+1)).map ((u:Int)::·)) w5 (.slice (some ⟨g5,0,none⟩) (acc.length+1) c5)):=zhd (by rw[HINi.out];exact ⟨_,h5⟩);have HOB5:Hid (∀k,(Value.slice (some ⟨g5,0,none⟩) (acc.length+1) c5).ownBlock=some k→k<N1∨N2≤k):=zhd fun k hk=>by
    have e:g5=k:=by simpa[Value.ownBlock] using hk
    subst e;rcases hat5 with h | h
    ·exact HOB.out _ h
    ·exact .inr (by omega)
   have HPL5:=zhd ((HPL.out.ext h3s).agree (hag5 _ fun k hk hS=>by
    rcases HOB.out k hk with h | h
    ·omega
    ·omega))
   have R5:=Yj (R0.ext h3s) hbel5;have ex5:=(za ex h3s).trans (hbel5.mono (by omega));have hN5:N2≤w5.heap.size:=by have:=hbel5.size;omega
   clear h5 hown5 hbel5 hag5 hat5 h3i h3s hv3 hag3 hb3 hown3 R0 ex HO HOB HPL HO3 HOW;go_wp2;go_roundw
   case rel=>exact ⟨i+1,_,_,_,by omega,by go_num,rfl,HO5,HOB5,HPL5,hN5,ex5,R5⟩
   case measure=>simp[intOf];omega
end Go.Proofs.YtiabbjolepnjkaaGreat
