/- Part of the proof that the laws answer true for every input. -/
import Derived.Test.YtiabbjolepnjkaaGreatPDfB06
import Derived.Shelf.Small.Bits
set_option linter.unusedSimpArgs false
set_option linter.unnecessarySimpa false
set_option linter.unusedVariables false
set_option maxRecDepth 100000
set_option maxHeartbeats 40000000
namespace Go.Proofs.YtiabbjolepnjkaaGreat
open Go.RowKit Go.Shelf
attribute [local go_sem ↓] Go.wp_at_zero Go.wp_at_succ
attribute [local go_sem] Oper.semAt_some
def lenRen:Go.Shelf.Ren:=⟨fun | 125=>70 | 128=>104 | 129=>105 | n=>n,fun | 3=>3 | 4=>4 | 5=>5 | 9=>9 | 46=>131 | 51=>188 | 53=>190 | n=>n,fun | n=>n⟩
theorem lenLays:Go.Proofs.Lays.n125 Tryz.prog lenRen:={
 mixed:=by kernel_rfl
 f125:=Tryz.func70.trans (congrArg some (by kernel_rfl))
 f128:=Tryz.func104.trans (congrArg some (by kernel_rfl))
 f129:=Tryz.func105.trans (congrArg some (by kernel_rfl))
 t3:=Tryz.underlying3
 a3:=Tryz.isAgg3
 z3:=Tryz.sizeOf3
 v3:=Tryz.zeroValue3
 t4:=Tryz.underlying4
 a4:=Tryz.isAgg4
 z4:=Tryz.sizeOf4
 v4:=Tryz.zeroValue4
 t5:=Tryz.underlying5
 a5:=Tryz.isAgg5
 z5:=Tryz.sizeOf5
 v5:=Tryz.zeroValue5
 t9:=Tryz.underlying9
 a9:=Tryz.isAgg9
 z9:=Tryz.sizeOf9
 v9:=Tryz.zeroValue9
 t46:=Tryz.underlying131
 a46:=Tryz.isAgg131
 z46:=Tryz.sizeOf131
 v46:=Tryz.zeroValue131
 t51:=Tryz.underlying188
 a51:=Tryz.isAgg188
 z51:=Tryz.sizeOf188
 v51:=Tryz.zeroValue188
 t53:=Tryz.underlying190
 a53:=Tryz.isAgg190
 z53:=Tryz.sizeOf190
 v53:=Tryz.zeroValue190}
theorem zeN:∀n:Fin 256,Lib.bitLen n.val=widN (n.val+1):=by decide+kernel
theorem XN (w:World) {n:Nat} (hn:n≤200):Calls Tryz.prog 70 #[.int .u64 n] w fun e w'=>e=.returned (.int .i64 (widN (n+1)))∧w'=w:=by
 have h:=Any.bits_Len lenLays (n:Int) w (by omega) (by omega);rw[Int.toNat_natCast,zeN ⟨n,by omega⟩]at h;exact h
abbrev Trp:Type:=Nat×Nat×Nat
def rowP (k p n:Nat):List Trp:=((List.range n).filter fun q=>decide (p≠q)).map fun q=>(k,p,q)
def colP (N k n:Nat):List Trp:=(List.range n).flatMap fun p=>rowP k p N
def allP (N n:Nat):List Trp:=(List.range n).flatMap fun k=>colP N k N
theorem QK (k p n:Nat):rowP k p (n+1)=rowP k p n++if p=n then [] else [(k,p,n)]:=by
 unfold rowP;rw[List.range_succ,List.filter_append,List.map_append,List.filter_cons];by_cases h:p=n<;>simp[h]
theorem Yn (N k n:Nat):colP N k (n+1)=colP N k n++rowP k n N:=by
 unfold colP;rw[List.range_succ,List.flatMap_append];simp
theorem Ye (N n:Nat):allP N (n+1)=allP N n++colP N n N:=by
 unfold allP;rw[List.range_succ,List.flatMap_append];simp
theorem zjr (k p n:Nat):(rowP k p n).length≤n:=by
 unfold rowP;rw[List.length_map];exact Nat.le_trans (List.length_filter_le _ _) (by simp)
theorem zfn (N k:Nat):∀n,(colP N k n).length≤n * N
 | 0=>by simp[colP]
 | n+1=>by
  have h1:=zfn N k n;have h2:=zjr k n N;rw[Yn,List.length_append,Nat.succ_mul];omega
theorem zgy (N:Nat):∀n,(allP N n).length≤n * (N * N)
 | 0=>by simp[allP]
 | n+1=>by
  have h1:=zgy N n;have h2:=zfn N n N;rw[Ye,List.length_append,Nat.succ_mul];omega
theorem zh7 (k p:Nat) {n m:Nat} (h:n≤m):rowP k p n<+:rowP k p m:=by
 obtain ⟨d,rfl⟩:∃d,m=n+d:=⟨m - n,by omega⟩;unfold rowP;rw[List.range_add,List.filter_append,List.map_append];exact List.prefix_append _ _
theorem zh1 (N k:Nat) {n m:Nat} (h:n≤m):colP N k n<+:colP N k m:=by
 obtain ⟨d,rfl⟩:∃d,m=n+d:=⟨m - n,by omega⟩;unfold colP;rw[List.range_add,List.flatMap_append];exact List.prefix_append _ _
theorem zih (N:Nat) {n m:Nat} (h:n≤m):allP N n<+:allP N m:=by
 obtain ⟨d,rfl⟩:∃d,m=n+d:=⟨m - n,by omega⟩;unfold allP;rw[List.range_add,List.flatMap_append];exact List.prefix_append _ _
theorem zgf {α:Type} {a b c:List α} (h:b<+:c):a++b<+:a++c:=by
 obtain ⟨d,rfl⟩:=h;exact ⟨d,by rw[List.append_assoc]⟩
theorem zg8 {N K k p q:Nat} (hk:k<K) (hp:p<N) (hq:q≤N):allP N k++colP N k p++rowP k p q<+:allP N K:=by
 have h1:colP N k p++rowP k p q<+:colP N k N:=by
  refine List.IsPrefix.trans ?_ (zh1 N k (show p+1≤N by omega));rw[Yn];exact zgf (zh7 k p hq)
 rw[List.append_assoc];refine List.IsPrefix.trans ?_ (zih N (show k+1≤K by omega));rw[Ye];exact zgf h1
def sumL (f:Trp→Nat) (l:List Trp):Nat:=(l.map f).sum
theorem Qf (f:Trp→Nat) (a b:List Trp):sumL f (a++b)=sumL f a+sumL f b:=by unfold sumL;rw[List.map_append,List.sum_append_nat]
theorem zei {f:Trp→Nat} {k p:Nat} (h0:f (k,p,p)=0):∀n,sumL f (rowP k p n)=sumTo (fun q=>f (k,p,q)) n
 | 0=>rfl
 | n+1=>by
  rw[QK,Qf,zei h0 n];show _=sumTo (fun q=>f (k,p,q)) n+f (k,p,n);by_cases h:p=n
  ·subst h;rw[if_pos rfl,h0];rfl
  ·rw[if_neg h];simp[sumL]
theorem zeo {f:Trp→Nat} {N k:Nat} (h0:∀p,f (k,p,p)=0):∀n,sumL f (colP N k n)=sumTo (fun p=>sumTo (fun q=>f (k,p,q)) N) n
 | 0=>rfl
 | n+1=>by rw[Yn,Qf,zeo h0 n,zei (h0 n)];rfl
theorem zdU {f:Trp→Nat} {N:Nat} (h0:∀k p,f (k,p,p)=0):∀n,sumL f (allP N n)=sumTo (fun k=>sumTo (fun p=>sumTo (fun q=>f (k,p,q)) N) N) n
 | 0=>rfl
 | n+1=>by rw[Ye,Qf,zdU h0 n,zeo (h0 n)];rfl
abbrev Plc (N K:Nat):Type:={x:Trp // x.1<K∧x.2.1<N∧x.2.2<N∧x.2.1≠x.2.2}
theorem zeE (w:World) {N K:Nat} {ca sa ta xa:Option Addr} {cc sc tc xc:Nat} {s:SysF}:Calls Tryz.prog 69 #[.agg #[s.p.n,s.p.ins,s.p.outs,.slice ca s.p.cs.length cc,s.p.an,.slice sa s.p.st.length sc,K,N,.slice ta s.tab.length tc,.slice xa s.ex.length xc]] w fun q w'=>q=.returned (.func (.func 103) #[] #[.pointer (some ⟨w.heap.size,0,none⟩)])∧w'=w.alloc (.cells #[s.p.n,s.p.ins,s.p.outs,.slice ca s.p.cs.length cc,s.p.an,.slice sa s.p.st.length sc,K,N,.slice ta s.tab.length tc,.slice xa s.ex.length xc] 35):=by
 go_enter Tryz.func69,Tryz.ntmps69;go_wp2;go_ret;exact ⟨rfl,rfl⟩
theorem zfh {T:Nat→Prop} {w:World} {n B N K:Nat} {ca sa ta xa:Option Addr} {cc sc tc xc:Nat} {s:SysF} (hn:1≤n) (R1:Row w B 35 [s.p.n,s.p.ins,s.p.outs,.slice ca s.p.cs.length cc,s.p.an,.slice sa s.p.st.length sc,K,N,.slice ta s.tab.length tc,.slice xa s.ex.length xc]) (hT1:T B) (hTw:∀b,T b→b<w.heap.size) (hN:N≤5) (hK:K≤6):
  SeqStopsK Fence.wide n Tryz.prog 103 #[.pointer (some ⟨B,0,none⟩)] (fun x:Plc N K=>#[.agg #[.int .i64 (x.1.1:Nat),.int .i64 (x.1.2.1:Nat),.int .i64 (x.1.2.2:Nat)]]) (Agree T) (fun l=>l.map (·.1)=allP N K) (fun pre=>pre.map (·.1)<+:allP N K) 1000 w:=by
 intro l J Jx W hW hJ hJx hY h0;have HY:=zhd hY;have H0:=zhd h0;have HJ:=zhd hJ;have R1:=R1.ext hW;have HR1:Hid (∀W',Agree T W W'→Row W' B 35 [s.p.n,s.p.ins,s.p.outs,.slice ca s.p.cs.length cc,s.p.an,.slice sa s.p.st.length sc,K,N,.slice ta s.tab.length tc,.slice xa s.ex.length xc]):=zhd fun W' h=>R1.agree h hT1;have t6:=(R1).zc 6 rfl;have t7:=(R1).zc 7 rfl;have lb:=(R1).lt;have hag:Agree T W W:=.refl _ _;have HPL:Hid (∀pre:List (Plc N K),pre.map (·.1)<+:allP N K→pre.length<1000):=zhd fun pre hp=>by
  have h1:=hp.length_le;rw[List.length_map]at h1;have h2:=zgy N K;have h3:N * N≤5 * 5:=Nat.mul_le_mul hN hN;have h4:K * (N * N)≤6 * 25:=Nat.mul_le_mul hK h3;omega
 clear hJ hJx hY h0 hTw R1;refine callsIn_of_wp Tryz.func103 rfl trivial ?_ rfl;simp only[Tryz.ntmps103,List.size_toArray,List.length_cons,List.length_nil,Nat.reduceAdd,Nat.reduceSub,Array.replicate_succ,Array.replicate_zero,List.push_toArray,List.append_toArray,List.nil_append,List.cons_append];gi_wp2;clear t6 t7 lb;gi_loopw [3,4,5,9,15,21] (fun _ _ _ kv _ _ wr=>∃(k:Nat) (pre:List (Plc N K)),k≤K∧kv=.int .i64 k∧Hid (J pre wr)∧Hid (pre.map (·.1)=allP N k)∧Agree T W wr) (fun _ _ _ kv _ _ _=>K - (intOf kv).toNat)
 case atStart=>exact ⟨0,[],Nat.zero_le _,rfl,H0,zhd rfl,hag⟩
 case round=>
  clear hag H0;obtain ⟨k,pre,hk,rfl,HJs,HP,hA⟩:=hrel;by_cases hlt:k<K
  case neg=>
   obtain rfl:k=K:=by omega
   have HPE:Hid (pre.map (·.1)=allP N k):=HP;gi_wp2;go_end0;exact ⟨⟨_,rfl⟩,.inl ⟨pre,HPE.out,HJs.out⟩⟩
  have t6:=(HR1.out wr hA).zc 6 rfl;have t7:=(HR1.out wr hA).zc 7 rfl;have lb:=(HR1.out wr hA).lt;have HP0:Hid (pre.map (·.1)=allP N k++colP N k 0):=zhd (by rw[HP.out];simp[colP]);have HKN:Hid (∀pre:List (Plc N K),pre.map (·.1)=allP N k++colP N k N→pre.map (·.1)=allP N (k+1)):=zhd fun pre h=>by rw[h,Ye]
  clear HP;gi_wp2;clear t6 t7 lb;gi_loopw [4,5,15,21] (fun _ _ pv _ wr=>∃(p:Nat) (pre:List (Plc N K)),p≤N∧pv=.int .i64 p∧Hid (J pre wr)∧Hid (pre.map (·.1)=allP N k++colP N k p)∧Agree T W wr) (fun _ _ pv _ _=>N - (intOf pv).toNat)
  case atStart=>exact ⟨0,pre,Nat.zero_le _,rfl,HJs,HP0,hA⟩
  case round=>
   clear HJs HP0 hA pre;obtain ⟨p,pre,hp,rfl,HJs,HP,hA⟩:=hrel;by_cases hlp:p<N
   case neg=>
    obtain rfl:p=N:=by omega
    have HP2:=zhd (HKN.out pre HP.out);clear HP HKN;gi_wp2;go_roundw
    case rel=>exact ⟨k+1,pre,by omega,by go_num,HJs,HP2,hA⟩
    case measure=>simp[intOf];omega
   have t6:=(HR1.out wr hA).zc 6 rfl;have t7:=(HR1.out wr hA).zc 7 rfl;have lb:=(HR1.out wr hA).lt;have HP0:Hid (pre.map (·.1)=allP N k++colP N k p++rowP k p 0):=zhd (by rw[HP.out];simp[rowP]);have HPN:Hid (∀pre:List (Plc N K),pre.map (·.1)=allP N k++colP N k p++rowP k p N→pre.map (·.1)=allP N k++colP N k (p+1)):=zhd fun pre h=>by rw[h,Yn,List.append_assoc]
   clear HP;gi_wp2;clear t6 t7 lb;gi_loopw [5,21] (fun _ qv wr=>∃(q:Nat) (pre:List (Plc N K)),q≤N∧qv=.int .i64 q∧Hid (J pre wr)∧Hid (pre.map (·.1)=allP N k++colP N k p++rowP k p q)∧Agree T W wr) (fun _ qv _=>N - (intOf qv).toNat)
   case atStart=>exact ⟨0,pre,Nat.zero_le _,rfl,HJs,HP0,hA⟩
   case round=>
    clear HJs HP0 hA pre;obtain ⟨q,pre,hq,rfl,HJs,HP,hA⟩:=hrel;by_cases hlq:q<N
    case neg=>
     obtain rfl:q=N:=by omega
     have HP2:=zhd (HPN.out pre HP.out);clear HP HPN;gi_wp2;go_roundw
     case rel=>exact ⟨p+1,pre,by omega,by go_num,HJs,HP2,hA⟩
     case measure=>simp[intOf];omega
    by_cases hpq:p=q
    ·have dpq:((p:Int) !=(q:Int))=false:=by simp[hpq]
     have HP2:Hid (pre.map (·.1)=allP N k++colP N k p++rowP k p (q+1)):=zhd (by rw[HP.out,QK,if_pos hpq,List.append_nil]);clear HP hpq;gi_wp2;refine ⟨fun f hf=>(nomatch hf),?_⟩;gi_wp2;go_roundw
     case rel=>exact ⟨q+1,pre,by omega,by go_num,HJs,HP2,hA⟩
     case measure=>simp[intOf];omega
    have dpq:((p:Int) !=(q:Int))=true:=by rw[bne_iff_ne];omega
    have HHM:Hid (k<K∧p<N∧q<N∧p≠q):=zhd ⟨hlt,hlp,hlq,hpq⟩;have HPN2:Hid ((pre++[(⟨(k,p,q),HHM.out⟩:Plc N K)]).map (·.1)=allP N k++colP N k p++rowP k p (q+1)):=zhd (by rw[List.map_append,HP.out,QK,if_neg hpq,←List.append_assoc];rfl);have HPX:Hid ((pre++[(⟨(k,p,q),HHM.out⟩:Plc N K)]).map (·.1)<+:allP N K):=zhd (by rw[HPN2.out];exact zg8 hlt hlp hlq);have HPLn:=zhd (HPL.out pre (by rw[HP.out];exact zg8 hlt hlp (by omega)));obtain ⟨fn,tmps,assign,body,hyy,hRnd⟩:=HY.out pre ⟨(k,p,q),HHM.out⟩ _ HJs.out HPLn.out;dsimp only at hyy;clear HP hpq;gi_wp2;refine hRnd.mono ?_;rintro e W3 (⟨rfl,hJ3,hk3⟩ | ⟨rfl,hJx3⟩)
    ·have HJ3:=zhd hJ3;have hA3:=hA.trans hk3;clear hJ3 hyy hRnd;gi_wp2;go_roundw
     case rel=>exact ⟨q+1,_,by omega,by go_num,HJ3,HPN2,hA3⟩
     case measure=>simp[intOf];omega
    ·have HJ3:=zhd hJx3;clear hJx3 hyy hRnd;gi_wp2;refine bodyPost_ret (results_none rfl _ _ _) rfl ?_;exact ⟨⟨_,rfl⟩,.inr ⟨_,HPX.out,HJ3.out⟩⟩
theorem zh0 {S:Nat→Prop} {w:World} {v vcl:Value} {s:SysF} {cl:List Int} (h:SysV S w v s) (hf:PFew s.p) (h3:Ints S w vcl cl) (hm:s.tab.length≤120) (h0:mesE s cl≠0):
  Calls Tryz.prog 33 #[v,vcl] w (Post w fun _ q=>q=.tuple #[bitA s cl,mesE s cl]):=by
 have KN:Hid (∀W,Below w.heap.size w W→Calls Tryz.prog 68 #[v,vcl] W (Post W fun _ q=>q=.tuple #[.pointer none,mesE s cl])):=zhd fun W hW=>(Yf (h.ext hW) hf (h3.ext hW) hm).mono fun _ _ h=>zV h fun _ _ hr=>by
  rcases hr with ⟨h1,_⟩ | ⟨_,h1⟩
  ·exact absurd h1 h0
  ·exact h1
 have RE:Hid (bitA s cl=0):=zhd (by unfold bitA;rw[if_neg h0]);obtain ⟨z,hz⟩:=zn (bitA s cl);rw[←hz]at RE ⊢;obtain ⟨e,hee⟩:=zn (mesE s cl);rw[←hee]at KN h0 ⊢;obtain ⟨ca,cc,sa,sc,ta,tc,xa,xc,rfl,hc,hs,ht,hx⟩:=h.zf;obtain ⟨a3,c3,rfl,_⟩:=h3.form;obtain ⟨ex,R0⟩:=zb1 w [s.p.n,s.p.ins,s.p.outs,.slice ca s.p.cs.length cc,s.p.an,.slice sa s.p.st.length sc,s.p.rounds,s.tn,.slice ta s.tab.length tc,.slice xa s.ex.length xc] 35;have d0:(e !=0)=true:=by simp[h0]
 clear hc hs ht hx h3 hf hm hz hee h0;obtain ⟨t0,t1,t2,t3,t4,t5,t6,t7,t8,t9⟩:=R0.ten;have l0:=R0.lt;go_enter Tryz.func33,Tryz.ntmps33;go_wp2_with fail;refine (KN.out _ ex).mono ?_;rintro _ w1 ⟨_,rfl,hb,rfl⟩;replace R0:=R0.ext hb;replace ex:=za ex hb;clear hb KN t0 t1 t2 t3 t4 t5 t6 t7 t8 t9 l0;replace ex:=zh ex (.cells #[.pointer none] 120);clear R0;go_wp2;go_ret2;exact .mk ex (tup2 RE.out.symm rfl)
theorem zi0 {S:Nat→Prop} {w:World} {v vcl:Value} {s:SysF} {cl:List Int} (h:SysV S w v s) (hf:PFew s.p) (h3:Ints S w vcl cl) (hm:s.tab.length≤120) (h0:mesE s cl=0):
  Calls Tryz.prog 33 #[v,vcl] w (Post w fun _ q=>q=.tuple #[bitA s cl,mesE s cl]):=by
 have KN:Hid (∀W,Below w.heap.size w W→Calls Tryz.prog 68 #[v,vcl] W (Post W fun w' q=>∃g,q=.tuple #[.pointer (some ⟨g,0,none⟩),.int .i64 0]∧ScnM (fun b=>(S b∧b<W.heap.size)∨W.heap.size≤b) w' g s cl)):=zhd fun W hW=>(Yf (h.ext hW) hf (h3.ext hW) hm).mono fun _ _ h=>zV h fun _ _ hr=>by
  rcases hr with ⟨_,g,h1,h2,_⟩ | ⟨h1,_⟩
  ·exact ⟨g,h1,h2⟩
  ·exact absurd h0 h1
 have KY:Hid (∀(A:Nat→Prop) W g (k p q:Nat),ScnM A W g s cl→Calls Tryz.prog 64 #[.pointer (some ⟨g,0,none⟩),.agg #[k,p,q]] W (Post W fun w' r=>∃u,r=.tuple #[u,.int .i64 (manyN s.tab cl k p q (mN cl))]∧Ints (fun b=>W.heap.size≤b) w' u (symL s.tab cl k p q (mN cl)))):=zhd fun A W g k p q hS=>YV hS;have HG:Hid ((s.p.rounds=s.K∧s.tn=s.N∧s.K≤6∧s.N≤5)∧(∀k p q,manyN s.tab cl k p q (mN cl)≤120)∧bitA s cl=bitS s.tab cl (mN cl) s.N s.K):=zhd (by
  obtain ⟨g1,g2,g3,_⟩:=zd5 h0;have hg:=qG g1 h.moves8;refine ⟨⟨hg.rnd,hg.tn,hg.K6,hg.tab.1⟩,fun k p q=>?_,by unfold bitA;rw[if_pos h0]⟩;have h1:=xP (r:=k) (f:=p) (t:=q) hg.tab hg.nodup (yl g2 g3) (mN cl) (Nat.le_refl _);have:=zdB g2;omega)
 obtain ⟨z,hz⟩:=zn (bitA s cl);rw[←hz]at HG ⊢;obtain ⟨K,hK⟩:=zn s.K;obtain ⟨N,hN⟩:=zn s.N;obtain ⟨m,hmx⟩:=zn (mN cl);rw[←hK,←hN,←hmx]at HG;rw[←hmx]at KY;obtain ⟨ca,cc,sa,sc,ta,tc,xa,xc,rfl,hc,hs,ht,hx⟩:=h.zf;obtain ⟨a3,c3,rfl,_⟩:=h3.form;obtain ⟨ex,R0⟩:=zb1 w [s.p.n,s.p.ins,s.p.outs,.slice ca s.p.cs.length cc,s.p.an,.slice sa s.p.st.length sc,s.p.rounds,s.tn,.slice ta s.tab.length tc,.slice xa s.ex.length xc] 35;have HE0:=zhd h0;clear hc hs ht hx h3 hf hm hz hK hN hmx h0;obtain ⟨t0,t1,t2,t3,t4,t5,t6,t7,t8,t9⟩:=R0.ten;have l0:=R0.lt;refine (callsIn_wide (n:=6)).1 ?_;refine callsIn_of_wp_marks Tryz.func33 rfl trivial ?_ rfl;simp only[Tryz.ntmps33,List.size_toArray,List.length_cons,List.length_nil,Nat.reduceAdd,Nat.reduceSub,Array.replicate_succ,Array.replicate_zero,List.push_toArray,List.append_toArray,List.nil_append,List.cons_append];gi_wp2_with fail
 refine ⟨trivial,(callsIn_wide.2 (KN.out _ ex)).mono ?_⟩;rintro _ w1 ⟨_,rfl,hb,g,rfl,hS⟩;replace R0:=R0.ext hb;replace ex:=za ex hb;clear hb KN t0 t1 t2 t3 t4 t5 t6 t7 t8 t9 l0;obtain ⟨⟨hrd,htn,hK6,hN5⟩,HMB,hzz⟩:=HG.out;have HZZ:=zhd hzz;replace HMB:=zhd HMB;have HS1:=zhd hS.block;have d0:((0:Int) !=0)=false:=rfl;rw[hrd,htn]at R0;clear hS hzz HG hrd htn;have e2:=zh (ze w1 (.cells #[.pointer (some ⟨g,0,none⟩)] 120)) (.cells #[.int .i64 0] 3);have RX:=(zi w1 [.pointer (some ⟨g,0,none⟩)] 120).alloc (.cells #[.int .i64 0] 3);have zzRT:=zi (w1.alloc (.cells #[.pointer (some ⟨g,0,none⟩)] 120)) [.int .i64 0] 3;rw[World.size_alloc]at zzRT;have R02:=R0.ext e2;have HS2:=zhd (HS1.out.ext e2);have ex2:=za ex e2;obtain ⟨t0,t1,t2,t3,t4,t5,t6,t7,t8,t9⟩:=R02.ten;have l0:=R02.lt;clear e2 R0;gi_wp2_with fail
 obtain ⟨w2,hw2⟩:=zn ((w1.alloc (.cells #[.pointer (some ⟨g,0,none⟩)] 120)).alloc (.cells #[.int .i64 0] 3));obtain ⟨XB,hXB⟩:∃B,B=w1.heap.size:=⟨_,rfl⟩;obtain ⟨TB,hTB⟩:∃B,B=w1.heap.size+1:=⟨_,rfl⟩;rw[←hw2]at RX zzRT R02 HS2 ex2 t0 t1 t2 t3 t4 t5 t6 t7 t8 t9 l0 ⊢;rw[←hTB]at zzRT ⊢;rw[←hXB]at RX HS2 ⊢;have hXT:XB<TB:=by omega
 have hwX:w.heap.size≤XB:=by have:=ex.size;omega
 have KP:=zhd (zeE w2 (N:=N) (K:=K) (ca:=ca) (cc:=cc) (sa:=sa) (sc:=sc) (ta:=ta) (tc:=tc) (xa:=xa) (xc:=xc) (s:=s));clear hw2 hXB hTB ex;refine ⟨trivial,(callsIn_wide.2 KP.out).mono ?_⟩;rintro _ _ ⟨rfl,rfl⟩;have e3:=ze w2 (.cells #[s.p.n,s.p.ins,s.p.outs,.slice ca s.p.cs.length cc,s.p.an,.slice sa s.p.st.length sc,K,N,.slice ta s.tab.length tc,.slice xa s.ex.length xc] 35);have RP:=zi w2 [s.p.n,s.p.ins,s.p.outs,.slice ca s.p.cs.length cc,s.p.an,.slice sa s.p.st.length sc,K,N,.slice ta s.tab.length tc,.slice xa s.ex.length xc] 35;have RT3:=zzRT.ext e3;have RX3:=RX.ext e3;have ex3:=za ex2 e3;have HS3:=zhd (HS2.out.ext e3);have htl:=zzRT.lt;obtain ⟨w3,hw3⟩:=zn (w2.alloc (.cells #[s.p.n,s.p.ins,s.p.outs,.slice ca s.p.cs.length cc,s.p.an,.slice sa s.p.st.length sc,K,N,.slice ta s.tab.length tc,.slice xa s.ex.length xc] 35));obtain ⟨PB,hPB⟩:∃B,B=w2.heap.size:=⟨_,rfl⟩;rw[←hPB]at RP htl;rw[←hw3]at RP RT3 RX3 ex3 HS3;rw[←hw3,←hPB];have hPT:TB<PB:=htl;have z3:=RP.lt;have hHT:Hid (∀b,(b<w3.heap.size∧b≠TB)→b<w3.heap.size):=zhd fun b h=>h.1;have hTw:TB<w3.heap.size:=RT3.lt;clear hw3 hPB KP t0 t1 t2 t3 t4 t5 t6 t7 t8 t9 l0 zzRT RX R02 HS2 ex2 e3;gi_wp2;have HST:=zfh (T:=fun b=>b<w3.heap.size∧b≠TB) (n:=5) (by decide) RP ⟨z3,by omega⟩ hHT.out hN5 hK6;apply xT (n:=6) rfl (by decide) (gf:=103) (lb:=#[.pointer (some ⟨PB,0,none⟩)]) rfl trivial (enters_of Tryz.func103 (by kernel_rfl) rfl)
  HST xI (xH hHT.out) zas (fun _=>rfl)
  (fun (pre:List (Plc N K)) W=>Row W TB 3 [.int .i64 (sumL (fun x:Trp=>bitW s.tab cl m x.1 x.2.1 x.2.2) (pre.map (·.1)):Nat)]∧Agree (fun b=>b<w3.heap.size∧b≠TB) w3 W∧Below w.heap.size w W)
  (fun c (pre:List (Plc N K)) W=>False)
  (OwnFrom.and (yF (xs:=fun (pre:List (Plc N K))=>[.int .i64 (sumL (fun x:Trp=>bitW s.tab cl m x.1 x.2.1 x.2.2) (pre.map (·.1)):Nat)]) hTw) (OwnFrom.and (Yu hHT.out) (ownFrom_below (Nat.le_refl _) ex3.size)))
  (fun c=>qh _) ⟨RT3,.refl _ _,ex3⟩ (fun x=>.cells #[.int .i64 (x.1.1:Nat),.int .i64 (x.1.2.1:Nat),.int .i64 (x.1.2.2:Nat)] 68)
 case hassign=>
  intro l x W g K' hgW hK;gi_wp2;rw[←hgW];exact hK
 case hbody=>
  rintro l pre ⟨⟨k,p,q⟩,hkK,hpN,hqN,hpq⟩ W ⟨hR,hAg,hB⟩ hsW hlen;dsimp only at hkK hpN hqN hpq ⊢;have hR1:=hR.alloc (.cells #[.int .i64 (k:Nat),.int .i64 (p:Nat),.int .i64 (q:Nat)] 68);have hA1:=hAg.alloc (.cells #[.int .i64 (k:Nat),.int .i64 (p:Nat),.int .i64 (q:Nat)] 68);have hB1:=zh hB (.cells #[.int .i64 (k:Nat),.int .i64 (p:Nat),.int .i64 (q:Nat)] 68);have RQ:=zi W [k,p,q] 68;have hne:W.heap.size≠TB:=by omega
  have RX1:=RX3.agree hA1 ⟨by omega,by omega⟩;have HS4:=zhd ((HS3.out.agree (hA1.mono fun b hb=>⟨by have:=hb.2;omega,by have:=hb.2;omega⟩)));have KS:=zhd (KY.out _ _ g k p q HS4.out);have HMk:=HMB.out k p q;have HSN:Hid (sumL (fun x:Trp=>bitW s.tab cl m x.1 x.2.1 x.2.2) ((pre++[(⟨(k,p,q),hkK,hpN,hqN,hpq⟩:Plc N K)]).map (·.1))=sumL (fun x:Trp=>bitW s.tab cl m x.1 x.2.1 x.2.2) (pre.map (·.1))+widN (manyN s.tab cl k p q m)):=zhd (by
   rw[List.map_append,Qf];congr 1
   simp only[sumL,List.map_cons,List.map_nil,List.sum_cons,List.sum_nil,Nat.add_zero];unfold bitW;rw[if_neg hpq])
  have hsum:sumL (fun x:Trp=>bitW s.tab cl m x.1 x.2.1 x.2.2) (pre.map (·.1))≤16000:=by
   have h1:∀l:List Trp,sumL (fun x:Trp=>bitW s.tab cl m x.1 x.2.1 x.2.2) l≤l.length * 16:=fun l=>by
    induction l with
    | nil=>simp[sumL]
    | cons a l ih=>
     have h2:=zjj (T:=s.tab) (cl:=cl) (m:=m) (fun k p q=>Nat.le_trans (HMB.out k p q) (by decide)) a.1 a.2.1 a.2.2;have h3:sumL (fun x:Trp=>bitW s.tab cl m x.1 x.2.1 x.2.2) (a::l)=bitW s.tab cl m a.1 a.2.1 a.2.2+sumL (fun x:Trp=>bitW s.tab cl m x.1 x.2.1 x.2.2) l:=by simp[sumL]
     rw[h3,List.length_cons,Nat.succ_mul];omega
   have:=h1 (pre.map (·.1));rw[List.length_map]at this;omega
  obtain ⟨x,hx⟩:=zn (sumL (fun x:Trp=>bitW s.tab cl m x.1 x.2.1 x.2.2) (pre.map (·.1)));obtain ⟨mm,hmm⟩:=zn (manyN s.tab cl k p q m);rw[←hx]at hR1 HSN hsum;rw[←hmm]at KS HMk HSN;obtain ⟨xn,hxn⟩:=zn (sumL (fun x:Trp=>bitW s.tab cl m x.1 x.2.1 x.2.2) ((pre++[(⟨(k,p,q),hkK,hpN,hqN,hpq⟩:Plc N K)]).map (·.1)));rw[←hxn]at HSN;have HXN:=zhd hxn;obtain ⟨W1,hW1⟩:=zn (W.alloc (.cells #[.int .i64 (k:Nat),.int .i64 (p:Nat),.int .i64 (q:Nat)] 68));obtain ⟨QB,hQB⟩:∃B,B=W.heap.size:=⟨_,rfl⟩;rw[←hW1]at hR1 hA1 hB1 RQ RX1 KS ⊢;rw[←hQB]at RQ hne ⊢;have t0:=RX1.zc 0 rfl;have lx:=RX1.lt;have q0:=RQ.zc 0 rfl;have q1:=RQ.zc 1 rfl;have q2:=RQ.zc 2 rfl;have lq:=RQ.lt;clear hW1 hQB hx hmm hxn hR hAg hB HS4;gi_wp2_with fail
  refine ⟨trivial,(callsIn_wide.2 KS.out).mono ?_⟩;rintro _ W2 ⟨_,rfl,y2,u,rfl,_⟩;have hR2:=hR1.ext y2;have hA2:=hA1.trans (.of_ext y2);have hB2:=za hB1 y2;clear KS t0 lx q0 q1 q2 lq RX1 RQ hR1 hA1 hB1;have KL:Hid (∀w',Below W2.heap.size W2 w'→(fun w':World=>w'.cell? ⟨TB,0,none⟩=some (.int .i64 (x:Nat))) w'):=zhd fun w' hw=>(hR2.ext hw).zc 0 rfl;have ltb:=hR2.lt;have ftb:=hR2.free 0;have HFF:Hid (∀y:Nat,KeepsOthers W1 (W2.setCell ⟨TB,0,none⟩ (.int .i64 (y:Int))).drew∧Agree (fun b=>b<w3.heap.size∧b≠TB) W1 (W2.setCell ⟨TB,0,none⟩ (.int .i64 (y:Int))).drew∧Row (W2.setCell ⟨TB,0,none⟩ (.int .i64 (y:Int))).drew TB 3 [.int .i64 (y:Int)]∧Agree (fun b=>b<w3.heap.size∧b≠TB) w3 (W2.setCell ⟨TB,0,none⟩ (.int .i64 (y:Int))).drew∧Below w.heap.size w (W2.setCell ⟨TB,0,none⟩ (.int .i64 (y:Int))).drew):=zhd fun y=>by
   have hs:=Agree.of_grown (S:=fun b=>b<w3.heap.size∧b≠TB) (zj W2 TB 0 (.int .i64 (y:Int))) fun b hb e=>hb.2 (by injection e with e;exact e.symm);have hd:=zb (W2.setCell ⟨TB,0,none⟩ (.int .i64 (y:Int))).heap.size (W2.setCell ⟨TB,0,none⟩ (.int .i64 (y:Int))) 1;exact ⟨(zY y2).trans ((KeepsOthers.setCell _ _ _).trans (zY hd)),(Agree.of_ext y2).trans (hs.trans (.of_ext hd)),(hR2.set 0 _).ext hd,hA2.trans (hs.trans (.of_ext hd)),za (hB2.setCell (p:=⟨TB,0,none⟩) (show w.heap.size≤TB by omega) _) hd⟩
  have hwx:∀b:Nat,b≤200→IntKind.i64.wrap ((x:Int)+(b:Int))=((x+b:Nat):Int):=fun b hb=>by rw[IntWalk.i64_left,IntWalk.wrap64_in _ (by omega)];omega
  have hwb:=zco (n:=mm) (by omega);clear y2 hR2 hA2 hB2;by_cases hm0:mm=0
  ·subst hm0;have hm1:0≤200:=by omega
   have hwq:widN (0+1)=0:=by decide
   have hw0:widN 0=0:=by decide
   rw[hw0,Nat.add_zero]at HSN;have K0:Hid (∀W,Calls Tryz.prog 70 #[.int .u64 0] W fun e w'=>e=.returned (.int .i64 0)∧w'=W):=zhd fun W=>by
    have:=XN W hm1;rw[hwq]at this;exact this
   have hwy:IntKind.i64.wrap (x:Int)=(x:Int):=by rw[IntWalk.i64_left,IntWalk.wrap64_in _ (by omega)]
   have HXX:=zhd (HXN.out.symm.trans HSN.out);clear hwx hwq hw0 hwb HXN HSN;gi_wp2;refine yQ (fun w':World=>w'.cell? ⟨TB,0,none⟩=some (.int .i64 (x:Nat))) (fun i=>i==7) (by kernel_rfl) (by kernel_rfl) (by rintro ⟨_,_,h⟩;exact h) ?_ (fun hHeld=>?_)
   ·exact KL.out _ (zb W2.heap.size W2 1)
   refine zt 0 hHeld ?_;refine zt 1 hHeld ?_;refine zt 2 hHeld ?_;refine zt 3 hHeld ?_;refine zt 4 hHeld ?_;refine zo 5 (fun K hK=>?_)
   (go_simp;go_at_call 70;refine (K0.out _).mono ?_;rintro _ v9 ⟨rfl,rfl⟩)
   refine zk hK (KL.out _ (zb W2.heap.size W2 1)) (fun hHeld=>?_);clear hK K;refine zt 6 hHeld ?_;refine zo 7 (fun K hK=>?_);go_simp;refine hK.out _ _ (fun h=>by simp at h) (fun hHeld=>?_);clear hK K;try simp only[Act.put,zsa,zsz,zss]
   refine zz (by kernel_rfl) ?_ _;clear hHeld KL;gi_wp2;refine ⟨(HFF.out x).1,(HFF.out x).2.1,?_,(HFF.out x).2.2.2⟩;rw[HXX.out];exact (HFF.out x).2.2.1
  ·obtain ⟨m1,hm1e⟩:∃m1:Nat,mm=m1+1:=⟨mm - 1,by omega⟩;have hm1:m1≤200:=by omega
   have hmw:IntKind.u64.wrap (IntKind.i64.wrap (max (mm:Int) 1 - 1))=(m1:Int):=by
    rw[show max (mm:Int) 1 - 1=(m1:Int) by omega,IntWalk.i64_left,IntWalk.wrap64_in _ (by omega)];unfold IntKind.wrap;simp[IntKind.signed,IntKind.bits];omega
   rw[hm1e]at HSN hwb;have hwy:=hwx (widN (m1+1)) (by omega);rw[←HSN.out]at hwy;obtain ⟨b,hb⟩:=zn (widN (m1+1));have K0:=zhd (fun W=>XN W hm1);rw[←hb]at K0 hwy;clear hwx hm1e hb hwb hm0 HSN;gi_wp2;refine yQ (fun w':World=>w'.cell? ⟨TB,0,none⟩=some (.int .i64 (x:Nat))) (fun i=>i==7) (by kernel_rfl) (by kernel_rfl) (by rintro ⟨_,_,h⟩;exact h) ?_ (fun hHeld=>?_)
   ·exact KL.out _ (zb W2.heap.size W2 1)
   refine zt 0 hHeld ?_;refine zt 1 hHeld ?_;refine zt 2 hHeld ?_;refine zt 3 hHeld ?_;refine zt 4 hHeld ?_;refine zo 5 (fun K hK=>?_)
   (go_simp;go_at_call 70;refine (K0.out _).mono ?_;rintro _ v9 ⟨rfl,rfl⟩)
   refine zk hK (KL.out _ (zb W2.heap.size W2 1)) (fun hHeld=>?_);clear hK K;refine zt 6 hHeld ?_;refine zo 7 (fun K hK=>?_);go_simp;refine hK.out _ _ (fun h=>by simp at h) (fun hHeld=>?_);clear hK K;try simp only[Act.put,zsa,zsz,zss]
   refine zz (by kernel_rfl) ?_ _;clear hHeld KL;gi_wp2;refine ⟨(HFF.out xn).1,(HFF.out xn).2.1,?_,(HFF.out xn).2.2.2⟩;rw[←HXN.out];exact (HFF.out xn).2.2.1
 case hstop=>
  rintro D c pre W hD hSp hF hK;exact hF.elim
 case hdone=>
  rintro D xs W hD hS ⟨hR,hAg,hB⟩ hK;have hsum:sumL (fun x:Trp=>bitW s.tab cl m x.1 x.2.1 x.2.2) (xs.map (·.1))=bitS s.tab cl m N K:=by
   rw[hS,zdU (fun k p=>by simp[bitW]) K];rfl
  rw[hsum]at hR;have HRE:Hid (z=(bitS s.tab cl m N K:Nat)):=HZZ;obtain ⟨bs,hbs⟩:∃b,b=bitS s.tab cl m N K:=⟨_,rfl⟩;rw[←hbs]at hR HRE;have t0:=hR.zc 0 rfl;have lt:=hR.lt;have HB:=zhd hB;clear hsum hbs hR hAg hS hB;gi_wp2;refine ⟨by simp,.inl ⟨_,_,rfl,run_takeDeferred hK,?_⟩⟩;have hB9:=HB.out.grown (grownBy_putObj' _ D (.deferred none)) HB.out.size (fun k hk=>by cases hk;omega);exact ⟨.tuple #[.int .i64 (bs:Nat),.int .i64 0],by simp[results,Tryz.results33,go_sem],.mk hB9 (tup2 HRE.out.symm HE0.out.symm)⟩
theorem XT {S:Nat→Prop} {w:World} {v vcl:Value} {s:SysF} {cl:List Int} (h:SysV S w v s) (hf:PFew s.p) (h3:Ints S w vcl cl) (hm:s.tab.length≤120):
  Calls Tryz.prog 33 #[v,vcl] w (Post w fun _ q=>q=.tuple #[bitA s cl,mesE s cl]):=by
 by_cases h0:mesE s cl=0
 ·exact zi0 h hf h3 hm h0
 ·exact zh0 h hf h3 hm h0
end Go.Proofs.YtiabbjolepnjkaaGreat
