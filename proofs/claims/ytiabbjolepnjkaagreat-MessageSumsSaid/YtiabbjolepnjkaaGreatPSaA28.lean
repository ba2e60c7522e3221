/- Part of the proof that the laws answer true for every input. -/
import Derived.Test.YtiabbjolepnjkaaGreatPSaA27
set_option linter.unusedSimpArgs false
set_option linter.unnecessarySimpa false
set_option linter.unusedVariables false
set_option maxRecDepth 100000
set_option maxHeartbeats 40000000
namespace Go.Proofs.YtiabbjolepnjkaaGreat
open Go.RowKit
attribute [local go_sem ↓] Go.wp_at_zero Go.wp_at_succ
theorem Qj {A:Nat→Prop} {w:World} {g:Nat} {s:SysF} {cl:List Int} {r f t c d:Nat} (h:ScnM A w g s cl) (hc':c<mN cl) (hd':d<mN cl) (sc':sndB s.tab cl r f c=true) (sd':sndB s.tab cl r f d=true):
  Calls Tryz.prog 74 #[.pointer (some ⟨g,0,none⟩),.agg #[r,f,t],c,d] w (Post w fun _ q=>q=.bool (eqC s.tab cl t c d)):=by
 have hU:=h.dat.used;have KP1:Hid (∀W,Below w.heap.size w W→Calls Tryz.prog 107 #[.pointer (some ⟨g,0,none⟩),.agg #[r,f,t],.int .i64 (fclN cl c:Nat),.int .i64 (fclN cl d:Nat)] W (Post W fun _ q=>q=.bool (folP s.tab (nth cl) t (fclN cl c) (fclN cl d)))):=zhd fun W hW=>Qk (h.ext hW) (hU.first hc').1 (hU.first hd').1 (qB.1 sc').1 (qB.1 sc').2;have KP2:Hid (∀W,Below w.heap.size w W→Calls Tryz.prog 107 #[.pointer (some ⟨g,0,none⟩),.agg #[r,f,t],.int .i64 (fclN cl d:Nat),.int .i64 (fclN cl c:Nat)] W (Post W fun _ q=>q=.bool (folP s.tab (nth cl) t (fclN cl d) (fclN cl c)))):=zhd fun W hW=>Qk (h.ext hW) (hU.first hd').1 (hU.first hc').1 (qB.1 sd').1 (qB.1 sd').2;have HR:Hid (eqC s.tab cl t c d=(folP s.tab (nth cl) t (fclN cl c) (fclN cl d)&&folP s.tab (nth cl) t (fclN cl d) (fclN cl c))):=zhd rfl;obtain ⟨q,hq⟩:=zn (eqC s.tab cl t c d);rw[←hq]at HR ⊢;obtain ⟨ca,cc,sa,sc,ta,tc,xa,xc,a3,c3,fa,fc,mb,R,_,hM,ht,hr,hL⟩:=h.mem;obtain ⟨hg,hgd,hlen,hfew⟩:=h.dat
 have qc:=hL.idx (k:=c) (by rw[qA];exact hc');have cc':=hL.cellN (k:=c) (by rw[qA];exact hc');rw[zbG hc']at cc';have qd:=hL.idx (k:=d) (by rw[qA];exact hd');have cd':=hL.cellN (k:=d) (by rw[qA];exact hd');rw[zbG hd']at cd';obtain ⟨x,hxx⟩:=zn (fclN cl c);obtain ⟨y,hyy⟩:=zn (fclN cl d);rw[←hxx]at cc' KP1 KP2 HR;rw[←hyy]at cd' KP1 KP2 HR;obtain ⟨b1,hb1⟩:∃b,b=folP s.tab (nth cl) t x y:=⟨_,rfl⟩;obtain ⟨b2,hb2⟩:∃b,b=folP s.tab (nth cl) t y x:=⟨_,rfl⟩;rw[←hb1]at KP1 HR;rw[←hb2]at KP2 HR;obtain ⟨m,hmx⟩:=zn (mN cl);rw[←hmx]at qc qd R;have ex:=ze w (.cells #[r,f,t] 68);have R1:=zi w [r,f,t] 68;have R0:=R.ext ex;have g11:=R0.zc 11 rfl;have lg:=R0.lt;have cc1:=zm cc' ex;have cd1:=zm cd' ex;have bc:=World.block_lt_of_cell? _ _ cc1;have bd:=World.block_lt_of_cell? _ _ cd1;have HX:=zhd (fun n=>zb ex (za _ _ n));have HR1:=zhd R1;clear hM ht hr hL hg hgd hlen hfew h hc' hd' hxx hyy hb1 hb2 hmx cc' cd' R hq hU sc' sd' ex R1;go_enter Tryz.func74,Tryz.ntmps74;go_upto_region 1 with fail;obtain ⟨w1,hw1⟩:=zn (w.alloc (.cells #[r,f,t] 68));rw[←hw1]at g11 lg cc1 cd1 bc bd HX HR1 R0 ⊢;clear hw1 R0;go_quiet (fail);refine zM fun w2 hq2=>?_;obtain ⟨n2,rfl⟩:=hq2;have ex:=HX.out n2;have R1:=HR1.out.ext (za w1.heap.size w1 n2);obtain ⟨w2,hw2⟩:=zn (w1.drewN n2);rw[←hw2]at ex R1 ⊢;clear HX HR1 g11 lg cc1 cd1 bc bd qc qd hw2;have p0:=R1.zc 0 rfl;have p1:=R1.zc 1 rfl;have p2:=R1.zc 2 rfl;have lp:=R1.lt;go_wp2_with fail;refine (KP1.out _ ex).mono ?_;rintro _ w3 ⟨_,rfl,hb,rfl⟩;replace R1:=R1.ext hb;replace ex:=zb ex hb;clear hb KP1 p0 p1 p2 lp;cases b1 with
 | false=>
  have RE:Hid (q=false):=zhd (by rw[HR.out];rfl);clear HR KP2;go_wp2;go_ret;exact .mk ex (zz RE.out.symm)
 | true=>
  have RE:Hid (q=b2):=zhd (by rw[HR.out];rfl);clear HR;have p0:=R1.zc 0 rfl;have p1:=R1.zc 1 rfl;have p2:=R1.zc 2 rfl;have lp:=R1.lt;go_wp2_with fail;refine (KP2.out _ ex).mono ?_;rintro _ w4 ⟨_,rfl,hb,rfl⟩;replace ex:=zb ex hb;clear hb KP2 p0 p1 p2 lp R1;go_wp2;go_ret;exact .mk ex (zz RE.out.symm)
theorem zfW {f:Nat→Bool} {n t:Nat} (ht:t<n) (h:f t=true) (hl:∀i,i<t→f i=false):minT f 0 n=(t:Int):=by
 rcases minF f n 0 with ⟨_,h1⟩ | ⟨u,h1,_,h3,h4,h5⟩
 ·rw[h1 t (by omega) (by omega)]at h;cases h
 ·rw[h1];rcases Nat.lt_trichotomy u t with h6 | h6 | h6
  ·rw[hl u h6]at h4;cases h4
  ·rw[h6]
  ·rw[h5 t (by omega) h6]at h;cases h
theorem zf3 {f:Nat→Bool} {n:Nat} (hl:∀i,i<n→f i=false):minT f 0 n= -1:=by
 rcases minF f n 0 with ⟨h,_⟩ | ⟨u,h1,_,h3,h4,_⟩
 ·exact h
 ·rw[hl u (by omega)]at h4;cases h4
theorem zcl {S:Nat→Prop} {w:World} {va:Value} {l:List Int} {cf:FuncId} {c1 c2 c3:Value} {b:Nat→Bool} (h:Ints S w va l) (hm:l.length≤60000) (eg:∀args w,(callFunc cf args).run Tryz.prog w=.ok (.enter cf args) w)
  (hK:∀k,k<l.length→∀W,Below w.heap.size w W→Calls Tryz.prog cf #[nth l k,c1,c2,c3] W (Post W fun _ q=>q=.bool (b k))):
  Calls Tryz.prog 101 #[va,.func (.func cf) #[] #[c1,c2,c3]] w (Post w fun _ q=>q=.int .i64 (minT b 0 l.length)):=by
 have HY:Hid ((∀t,t<l.length→b t=true→(∀i,i<t→b i=false)→minT b 0 l.length=(t:Int))∧((∀i,i<l.length→b i=false)→minT b 0 l.length= -1)):=zhd ⟨fun t ht h hl=>zfW ht h hl,zf3⟩;obtain ⟨q,hq⟩:=zn (minT b 0 l.length);rw[←hq]at HY ⊢;obtain ⟨a,c,rfl,_⟩:=h.form;have HI:=zhd h;have HK:=zhd hK;have H0:Hid (∀i,i<0→b i=false):=zhd fun i hi=>by omega
 have ex:=Below.refl w.heap.size w;clear h hK hq;go_enter Tryz.func101,Tryz.ntmps101;go_wp2;go_loopw [5,8] (fun _ iv wr=>∃k:Nat,k≤l.length∧iv=.int .i64 k∧Hid (∀i,i<k→b i=false)∧Below w.heap.size w wr) (fun _ iv _=>l.length - (intOf iv).toNat)
 case atStart=>exact ⟨0,Nat.zero_le _,rfl,H0,ex⟩
 case round=>
  clear ex H0;obtain ⟨k,hk,rfl,HN,ex⟩:=hrel;by_cases hlt:k<l.length
  case neg=>
   have RE:=zhd (HY.out.2 fun i hi=>HN.out i (by omega));clear HY HN;go_wp2;go_ret;exact .mk ex (zq RE.out.symm)
  have qk:=(HI.out.ext ex).idx hlt;have ck:=(HI.out.ext ex).cellN hlt;have bk:=World.block_lt_of_cell? _ _ ck;have KK:=zhd (HK.out k hlt);have HYk:=zhd (HY.out.1 k hlt);obtain ⟨y,hy⟩:=zn (nth l k);obtain ⟨z,hz⟩:=zn (b k);rw[←hy]at ck KK;rw[←hz]at KK HYk;have HZ:=zhd hz;clear hy hz;go_wp2_with fail;refine (KK.out _ ex).mono ?_;rintro _ w1 ⟨_,rfl,hb,rfl⟩;replace ex:=zb ex hb;clear hb KK qk ck bk;cases z with
  | true=>
   have RE:=zhd (HYk.out rfl HN.out);clear HY HYk HN;go_wp2;go_ret;exact .mk ex (zq RE.out.symm)
  | false=>
   have HN2:Hid (∀i,i<k+1→b i=false):=zhd fun i hi=>by
    by_cases e:i=k
    ·rw[e];exact HZ.out.symm
    ·exact HN.out i (by omega)
   clear HYk HN;go_wp2;go_roundw
   case rel=>exact ⟨k+1,by omega,by go_num,HN2,ex⟩
   case measure=>simp[intOf];omega
end Go.Proofs.YtiabbjolepnjkaaGreat
namespace Go.Proofs.YtiabbjolepnjkaaGreat
open Go.RowKit
attribute [local go_sem ↓] Go.wp_at_zero Go.wp_at_succ
theorem zgN {w:World} {base n:Nat} {e:TypeId} {v:Value} {l:List Int} (h:w.ownsRow base e 1 v n (l.map (Value.int .i64))) (hn:0<n):∃g cap ys,v=.slice (some ⟨g,0,none⟩) n cap∧base≤g∧Row w g e (l.map (Value.int .i64)++ys)∧l.length=n∧n+ys.length=cap∧cap≤maxLen:=by
 obtain ⟨h1,h2⟩:=h;rcases h2 with ⟨_,h3⟩ | ⟨g,cap,cur,rfl,hb,hg,hc,hm,hs,ht⟩
 ·omega
 ·rw[List.length_map,Nat.mul_one]at h1;rw[Nat.mul_one]at ht hs;refine ⟨g,cap,cur.toList.drop n,rfl,hb,?_,h1,?_,hm⟩
  ·show w.heap[g]? =_;rw[hg,←ht,List.take_append_drop]
  ·rw[List.length_drop];have:cur.toList.length=cap:=by rw[Array.length_toList];exact hs
   omega
theorem zgS {w:World} {base g n cap:Nat} {e:TypeId} {l:List Int} {ys:List Value} (R:Row w g e (l.map (Value.int .i64)++ys)) (hb:base≤g) (hl:l.length=n) (hc:n+ys.length=cap) (hm:cap≤maxLen):w.ownsRow base e 1 (.slice (some ⟨g,0,none⟩) n cap) n (l.map (Value.int .i64)):=by
 refine ⟨by rw[List.length_map,hl,Nat.mul_one],.inr ⟨g,cap,(l.map (Value.int .i64)++ys).toArray,rfl,hb,R,by omega,hm,?_,?_⟩⟩
 ·rw[List.size_toArray,List.length_append,List.length_map,hl,Nat.mul_one];exact hc
 ·rw[Nat.mul_one,List.take_left' (by rw[List.length_map,hl])]
def outK (T:List (List Int)) (cl:List Int) (r f t m k:Nat):List Int:=(List.range m).map fun c=>if c<k then symV T cl r f t c else -1
section
variable {N K:Nat} {T:List (List Int)} {cl:List Int} {r f t m k:Nat}
theorem zce:(outK T cl r f t m k).length=m:=by simp[outK]
theorem zeb:outK T cl r f t m 0=List.replicate m (-1):=by
 unfold outK;apply List.ext_getElem
 ·simp
 ·intro i h1 h2;simp
theorem zds:outK T cl r f t m m=symL T cl r f t m:=by
 unfold outK symL;apply List.map_congr_left;intro c hc;rw[if_pos (List.mem_range.1 hc)]
theorem zd5 (h:symV T cl r f t k= -1):outK T cl r f t m (k+1)=outK T cl r f t m k:=by
 unfold outK;apply List.map_congr_left;intro c hc;by_cases e:c=k
 ·subst e;rw[if_pos (by omega),if_neg (by omega),h]
 ·by_cases e2:c<k
  ·rw[if_pos (by omega),if_pos e2]
  ·rw[if_neg (by omega),if_neg e2]
theorem zah (hk:k<m):(outK T cl r f t m k).set k (symV T cl r f t k)=outK T cl r f t m (k+1):=by
 apply List.ext_getElem
 ·simp[outK]
 ·intro i h1 h2;have hi:i<m:=by simpa[outK] using h2
  simp only[outK,List.getElem_set,List.getElem_map,List.getElem_range];by_cases e:k=i
  ·subst e;rw[if_pos rfl,if_pos (by omega)]
  ·rw[if_neg e];by_cases e2:i<k
   ·rw[if_pos e2,if_pos (by omega)]
   ·rw[if_neg e2,if_neg (by omega)]
theorem X9 {l:List Int} {ys:List Value} {k:Nat} (hk:k<l.length) (x:Int):(l.map (Value.int .i64)++ys).set k (.int .i64 x)=(l.set k x).map (Value.int .i64)++ys:=by
 rw[List.set_append_left _ _ (by rw[List.length_map];exact hk),List.map_set]
theorem zf2:∀{l:List Nat} {x i:Nat},l[i]? =some x→l.idxOf x≤i
 | [],_,_,h=>by simp at h
 | a::l,x,0,h=>by
  simp at h;subst h;simp[List.idxOf_cons]
 | a::l,x,i+1,h=>by
  have:=zf2 (l:=l) (x:=x) (i:=i) (by simpa using h);rw[List.idxOf_cons];cases hh:a==x<;>simp<;>omega
def ledL (T:List (List Int)) (cl:List Int) (r f t k:Nat):List Nat:=firsts (symK T cl r f t k)
def ledI (T:List (List Int)) (cl:List Int) (r f t k:Nat):List Int:=(ledL T cl r f t k).map fun d:Nat=>(d:Int)
theorem Xc:(ledI T cl r f t k).length=manyN T cl r f t k:=by unfold ledI ledL manyN;rw[List.length_map]
theorem Yx (hT:TabOK N K T) (hn:T.Nodup) (hu:Used T cl m) (hk:k≤m) {j:Nat} (hj:j<manyN T cl r f t k):∃d:Nat,nth (ledI T cl r f t k) j=(d:Int)∧d<k∧sndB T cl r f d=true∧(ledL T cl r f t k)[j]? =some d:=by
 have hj':j<(ledL T cl r f t k).length:=hj;have hm:=List.getElem_mem hj';obtain ⟨h1,h2,_⟩:=zbR hT hn hu hk hm;refine ⟨(ledL T cl r f t k)[j],?_,h1,h2,List.getElem?_eq_getElem hj'⟩;unfold ledI;rw[yk (by rw[List.length_map];exact hj'),List.getElem_map]
theorem zfh (hT:TabOK N K T) (hn:T.Nodup) (hu:Used T cl m) (hk:k<m) (sc:sndB T cl r f k=true):
  (∃j:Nat,j<manyN T cl r f t k∧minT (fun j=>eqC T cl t (nth (ledI T cl r f t k) j).toNat k) 0 (manyN T cl r f t k)=(j:Int)∧symV T cl r f t k=(j:Int)∧ledI T cl r f t (k+1)=ledI T cl r f t k∧manyN T cl r f t (k+1)=manyN T cl r f t k)∨
  (minT (fun j=>eqC T cl t (nth (ledI T cl r f t k) j).toNat k) 0 (manyN T cl r f t k)= -1∧symV T cl r f t k=(manyN T cl r f t k:Int)∧ledI T cl r f t (k+1)=ledI T cl r f t k++[(k:Int)]∧manyN T cl r f t (k+1)=manyN T cl r f t k+1):=by
 have hq:∀j,j<manyN T cl r f t k→∃d:Nat,nth (ledI T cl r f t k) j=(d:Int)∧(ledL T cl r f t k)[j]? =some d∧(eqC T cl t d k=true↔d=keyC T cl r f t k):=fun j hj=>by
  obtain ⟨d,h1,h2,h3,h4⟩:=Yx hT hn hu (by omega) hj;exact ⟨d,h1,h4,zgQ hT hn hu hk sc (List.mem_of_getElem? h4)⟩
 rcases zaA (t:=t) hT hn hu hk sc with ⟨h1,h2,h3⟩ | ⟨h1,h2,h3,h4⟩
 ·left;have hj:(ledL T cl r f t k).idxOf (keyC T cl r f t k)<manyN T cl r f t k:=List.idxOf_lt_length_iff.2 h1;refine ⟨(ledL T cl r f t k).idxOf (keyC T cl r f t k),hj,?_,h3,by unfold ledI ledL;rw[h2],by unfold manyN;rw[h2]⟩;refine zfW hj ?_ fun i hi=>?_
  ·obtain ⟨d,e1,e2,e3⟩:=hq _ hj;rw[e1,Int.toNat_natCast];refine e3.2 ?_;have:(ledL T cl r f t k)[(ledL T cl r f t k).idxOf (keyC T cl r f t k)]? =some (keyC T cl r f t k):=by
    rw[List.getElem?_eq_getElem (show (ledL T cl r f t k).idxOf (keyC T cl r f t k)<(ledL T cl r f t k).length from hj),List.getElem_idxOf]
   rw[this]at e2;exact (Option.some.inj e2).symm
  ·obtain ⟨d,e1,e2,e3⟩:=hq i (by omega);rw[e1,Int.toNat_natCast];cases e:eqC T cl t d k with
   | false=>rfl
   | true=>
    have hd:=e3.1 e;rw[hd]at e2;have:=zf2 e2;omega
 ·right;refine ⟨zf3 fun i hi=>?_,h4,by unfold ledI ledL;rw[h3,List.map_append];rfl,by unfold manyN;rw[h3,List.length_append];rfl⟩;obtain ⟨d,e1,e2,e3⟩:=hq i hi;rw[e1,Int.toNat_natCast];cases e:eqC T cl t d k with
  | false=>rfl
  | true=>
   have hd:=e3.1 e;have:=List.mem_of_getElem? e2;rw[hd,h1]at this;exact absurd this h2
theorem ze7 (sc:sndB T cl r f k=false):ledI T cl r f t (k+1)=ledI T cl r f t k∧symV T cl r f t k= -1:=by
 obtain ⟨h1,h2⟩:=Qx (t:=t) sc;exact ⟨by unfold ledI ledL;rw[h1],h2⟩
end
end Go.Proofs.YtiabbjolepnjkaaGreat
namespace Go.Proofs.YtiabbjolepnjkaaGreat
open Go.RowKit
attribute [local go_sem ↓] Go.wp_at_zero Go.wp_at_succ
theorem zgG {w:World} {base size n:Nat} {e:TypeId} {v:Value} {xs:List Value} (h:w.ownsRow base e size v n xs):∀k,v.ownBlock=some k→k<w.heap.size:=by
 rcases h.2 with ⟨e1,_⟩ | ⟨g,cap,cur,e1,hb,hg,_⟩
 ·rw[e1];intro k hk;simp[Value.ownBlock]at hk
 ·rw[e1];intro k hk;simp[Value.ownBlock]at hk;subst hk;exact (Array.getElem?_eq_some_iff.1 hg).1
theorem zcS {A:Nat→Prop} {w:World} {g B1 B2 B3:Nat} {s:SysF} {cl:List Int} {r f t c d:Nat} (h:ScnM A w g s cl) (hc':c<mN cl) (hd':d<mN cl) (sc':sndB s.tab cl r f c=true) (sd':sndB s.tab cl r f d=true)
  (R1:Row w B1 120 [.pointer (some ⟨g,0,none⟩)]) (R2:Row w B2 68 [r,f,t]) (R3:Row w B3 3 [c]):
  Calls Tryz.prog 102 #[d,.pointer (some ⟨B1,0,none⟩),.pointer (some ⟨B2,0,none⟩),.pointer (some ⟨B3,0,none⟩)] w (Post w fun _ q=>q=.bool (eqC s.tab cl t d c)):=by
 have K:=zhd (Qj (t:=t) h hd' hc' sd' sc');obtain ⟨q,hq⟩:=zn (eqC s.tab cl t d c);rw[←hq]at K ⊢;have p0:=R1.zc 0 rfl;have l1:=R1.lt;have q0:=R2.zc 0 rfl;have q1:=R2.zc 1 rfl;have q2:=R2.zc 2 rfl;have l2:=R2.lt;have s0:=R3.zc 0 rfl;have l3:=R3.lt;clear hq h hc' hd' sc' sd' R1 R2 R3;go_enter Tryz.func102,Tryz.ntmps102;go_wp2_with fail;refine K.out.mono ?_;rintro _ w1 ⟨_,rfl,hb,rfl⟩;clear K p0 l1 q0 q1 q2 l2 s0 l3;go_wp2;go_ret;exact .mk hb rfl
theorem Zv {A:Nat→Prop} {w:World} {g:Nat} {s:SysF} {cl:List Int} {r f t:Nat} (h:ScnM A w g s cl):
  Calls Tryz.prog 64 #[.pointer (some ⟨g,0,none⟩),.agg #[r,f,t]] w (Post w fun w' q=>∃u,q=.tuple #[u,.int .i64 (manyN s.tab cl r f t (mN cl))]∧Ints (fun b=>w.heap.size≤b) w' u (symL s.tab cl r f t (mN cl))):=by
 have HS:=zhd h.block;have hU:=h.dat.used;have hmm:=h.dat.le;have HKS:Hid (∀W c,Below w.heap.size w W→c<mN cl→Calls Tryz.prog 73 #[.pointer (some ⟨g,0,none⟩),.agg #[r,f,t],c] W (Post W fun _ q=>q=.bool (sndB s.tab cl r f c))):=zhd fun W c hW hc=>Y7 (h.ext hW) hc;have HKC:Hid (∀W c d B3,Below w.heap.size w W→c<mN cl→d<mN cl→sndB s.tab cl r f c=true→sndB s.tab cl r f d=true→Row W w.heap.size 120 [.pointer (some ⟨g,0,none⟩)]→Row W (w.heap.size+1) 68 [r,f,t]→Row W B3 3 [c]→Calls Tryz.prog 102 #[d,.pointer (some ⟨w.heap.size,0,none⟩),.pointer (some ⟨w.heap.size+1,0,none⟩),.pointer (some ⟨B3,0,none⟩)] W (Post W fun _ q=>q=.bool (eqC s.tab cl t d c))):=zhd fun W c d B3 hW hc hd sc sd h1 h2 h3=>zcS (h.ext hW) hc hd sc sd h1 h2 h3;obtain ⟨ca,cc,sa,sc,ta,tc,xa,xc,a3,c3,fa,fc,mb,R,_,hM,ht,hr,hL⟩:=h.mem;obtain ⟨hg,hgd,hlen,hfew⟩:=h.dat
 have hT:=hg.tab;have hnd:=hg.nodup;have HNB:Hid (∀k,k≤mN cl→manyN s.tab cl r f t k≤k):=zhd (ZT hT hnd hU);have HSW:Hid (∀k,k≤mN cl→∀x∈symL s.tab cl r f t k,WF x):=zhd (zhe hT hnd hU (by omega));have HFD:Hid (∀k,k<mN cl→sndB s.tab cl r f k=true→(∃j:Nat,j<manyN s.tab cl r f t k∧minT (fun j=>eqC s.tab cl t (nth (ledI s.tab cl r f t k) j).toNat k) 0 (manyN s.tab cl r f t k)=(j:Int)∧symV s.tab cl r f t k=(j:Int)∧ledI s.tab cl r f t (k+1)=ledI s.tab cl r f t k∧manyN s.tab cl r f t (k+1)=manyN s.tab cl r f t k)∨(minT (fun j=>eqC s.tab cl t (nth (ledI s.tab cl r f t k) j).toNat k) 0 (manyN s.tab cl r f t k)= -1∧symV s.tab cl r f t k=(manyN s.tab cl r f t k:Int)∧ledI s.tab cl r f t (k+1)=ledI s.tab cl r f t k++[(k:Int)]∧manyN s.tab cl r f t (k+1)=manyN s.tab cl r f t k+1)):=zhd fun k hk hs=>zfh hT hnd hU hk hs;have HBD:Hid (∀k,k≤mN cl→∀j,j<manyN s.tab cl r f t k→∃d:Nat,nth (ledI s.tab cl r f t k) j=(d:Int)∧d<k∧sndB s.tab cl r f d=true):=zhd fun k hk j hj=>by
  obtain ⟨d,h1,h2,h3,_⟩:=Yx hT hnd hU hk hj;exact ⟨d,h1,h2,h3⟩
 have HLW:Hid (∀k,k≤mN cl→∀x∈ledI s.tab cl r f t k,WF x):=zhd fun k hk x hx=>by
  obtain ⟨j,hj,rfl⟩:=List.getElem_of_mem hx;rw[Xc]at hj;obtain ⟨d,h1,h2,_⟩:=Yx hT hnd hU hk hj;rw[yk (by rw[Xc];exact hj)]at h1;rw[h1];exact WF.small (by omega)
 have HSK:Hid (∀k,sndB s.tab cl r f k=false→(ledI s.tab cl r f t (k+1)=ledI s.tab cl r f t k∧symV s.tab cl r f t k= -1)∧manyN s.tab cl r f t (k+1)=manyN s.tab cl r f t k):=zhd fun k hs=>⟨ze7 hs,XQ hs⟩;have hm1:1≤mN cl:=by
  have hpos:0<s.tab.length:=zgo hg;obtain ⟨c,hc,_⟩:=zfQ hgd (v:=0) (by omega);omega
 have HZ:Hid (manyN s.tab cl r f t 0=0):=zhd Z2;have HLZ:Hid (ledI s.tab cl r f t 0=[]):=zhd rfl;obtain ⟨m,hmx⟩:=zn (mN cl);rw[←hmx]at HKS HKC HNB HSW HFD HBD HLW hmm hm1 R ⊢;have HKR:Hid (Calls Tryz.prog 40 #[.slice (some ⟨w.heap.size+1+1,0,none⟩) 1 1,m] (((w.alloc (.cells #[.pointer (some ⟨g,0,none⟩)] 120)).alloc (.cells #[r,f,t] 68)).alloc (.cells #[.int .i64 (-1)] 3)) (Post (((w.alloc (.cells #[.pointer (some ⟨g,0,none⟩)] 120)).alloc (.cells #[r,f,t] 68)).alloc (.cells #[.int .i64 (-1)] 3)) (OwnInts (((w.alloc (.cells #[.pointer (some ⟨g,0,none⟩)] 120)).alloc (.cells #[r,f,t] 68)).alloc (.cells #[.int .i64 (-1)] 3)).heap.size (List.replicate m (-1))))):=zhd (by
  have hi:=(show Row (((w.alloc (.cells #[.pointer (some ⟨g,0,none⟩)] 120)).alloc (.cells #[r,f,t] 68)).alloc (.cells #[.int .i64 (-1)] 3)) (w.heap.size+1+1) 3 (([-1]:List Int).map (Value.int .i64)) by
   have:=zi ((w.alloc (.cells #[.pointer (some ⟨g,0,none⟩)] 120)).alloc (.cells #[r,f,t] 68)) [.int .i64 (-1)] 3;simp only[World.size_alloc]at this;exact this).ints (by unfold maxLen;simp) (fun x hx=>by rw[List.mem_singleton.1 hx];exact WF.small (by decide))
  exact qS hi m (by omega))
 have ex:=zh (zh (ze w (.cells #[.pointer (some ⟨g,0,none⟩)] 120)) (.cells #[r,f,t] 68)) (.cells #[.int .i64 (-1)] 3);have R0:=((zi w [.pointer (some ⟨g,0,none⟩)] 120).alloc (.cells #[r,f,t] 68)).alloc (.cells #[.int .i64 (-1)] 3);have R1:=(zi (w.alloc (.cells #[.pointer (some ⟨g,0,none⟩)] 120)) [r,f,t] 68).alloc (.cells #[.int .i64 (-1)] 3);rw[World.size_alloc]at R1;have hz3:(((w.alloc (.cells #[.pointer (some ⟨g,0,none⟩)] 120)).alloc (.cells #[r,f,t] 68)).alloc (.cells #[.int .i64 (-1)] 3)).heap.size=w.heap.size+1+1+1:=by simp
 have RG:=R.ext ex;have g11:=RG.zc 11 rfl;have lg:=RG.lt;have p0:=R0.zc 0 rfl;have lp:=R0.lt;clear R hM ht hr hL hg hgd hlen hfew h hU hmx hT hnd;go_enter Tryz.func64,Tryz.ntmps64;go_wp2_with fail;refine HKR.out.mono ?_;rintro _ w1 ⟨u1,rfl,hb,hu1⟩;replace ex:=zb ex hb;replace R0:=R0.ext hb;replace R1:=R1.ext hb;replace RG:=RG.ext hb;unfold OwnInts at hu1;rw[List.length_replicate,←zeb (T:=s.tab) (cl:=cl) (r:=r) (f:=f) (t:=t)]at hu1;obtain ⟨O,cap,ys,rfl,hOB,RO,hOl,hOc,hOm⟩:=zgN hu1 (by omega);rw[hz3]at hOB;have HOI:=zhd (And.intro hOc hOm);have hOw:=RO.lt;obtain ⟨NB,hNB⟩:=zn w1.heap.size;rw[←hNB]at hOw;have hNw:NB≤w1.heap.size:=by omega
 have HLD0:Hid (w1.ownsRow NB 3 1 (.slice none 0 0) 0 ((ledI s.tab cl r f t 0).map (Value.int .i64))):=zhd (World.ownsRow_nil _ _ _ _);have HEX:=zhd ex;have HRG:=zhd RG;have y1:=Below.refl O w1;have hgw:=RG.lt;clear g11 lg p0 lp hb hu1 hOl hz3 HKR hNB HZ HLZ;have g11:=RG.zc 11 rfl;have lg:=RG.lt;have p0:=R0.zc 0 rfl;have lp:=R0.lt;clear RG hOc hOm;go_wp2;clear g11 lg p0 lp;go_loopw [7,8,9,22] (fun lv _ _ kv wr=>∃(k nl lc:Nat) (la:Option Addr),k≤m∧kv=.int .i64 k∧lv=.slice la nl lc∧Hid (nl=manyN s.tab cl r f t k)∧Below O w1 wr∧NB≤wr.heap.size∧Row wr O 3 ((outK s.tab cl r f t m k).map (Value.int .i64)++ys)∧Hid (wr.ownsRow NB 3 1 (.slice la nl lc) nl ((ledI s.tab cl r f t k).map (Value.int .i64)))) (fun _ _ _ kv _=>m - (intOf kv).toNat)
 case atStart=>exact ⟨0,0,0,none,Nat.zero_le _,rfl,rfl,zhd rfl,y1,hNw,RO,HLD0⟩
 case round=>
  clear y1 hNw RO HLD0;obtain ⟨k,nl,lc,la,hk,rfl,rfl,HNL,y1,hNr,RO,HLD⟩:=hrel;by_cases hlt:k<m
  case neg=>
   obtain rfl:k=m:=by omega
   have HI:Hid (Ints (fun b=>w.heap.size≤b) wr (.slice (some ⟨O,0,none⟩) k cap) (symL s.tab cl r f t k)):=zhd (by
    have h1:=zgS (base:=O) RO (Nat.le_refl _) zce HOI.out.1 HOI.out.2;rw[zds]at h1;exact (zaI (zfH ..) h1 (HSW.out k (Nat.le_refl _))).mono fun b hb=>by omega)
   have HE:=zhd (HEX.out.trans (y1.mono (by omega)));have HNL2:Hid ((nl:Int)=(manyN s.tab cl r f t k:Nat)):=zhd (by rw[HNL.out]);clear RO HLD y1 HNL;go_wp2;go_ret2;rw[HNL2.out];exact .mk HE.out ⟨_,rfl,HI.out⟩
  have hex:=HEX.out.trans (y1.mono (by omega));have R0r:=R0.agree (S:=fun b=>b<O) (.of_below y1 fun b hb _=>hb) (by omega);have R1r:=R1.agree (S:=fun b=>b<O) (.of_below y1 fun b hb _=>hb) (by omega);have e8:=ze wr (.cells #[k] 3);have R8:=zi wr [k] 3;have hex8:=zb hex e8;have R08:=R0r.ext e8;have R18:=R1r.ext e8;have RO8:=RO.ext e8;have HLD8:=zhd (zT HLD.out e8);have y8:=y1.trans (e8.mono (by omega));have hN8:NB≤(wr.alloc (.cells #[k] 3)).heap.size:=by simp;omega
  have hnl:nl≤120:=by have h1:=HNB.out k hk;have:=HNL.out;omega
  have KS:=zhd (HKS.out (wr.alloc (.cells #[k] 3)) k hex8 hlt);have HFDk:=zhd (HFD.out k hlt);have HSKk:=zhd (HSK.out k);have p0:=R08.zc 0 rfl;have lp:=R08.lt;have q0:=R18.zc 0 rfl;have q1:=R18.zc 1 rfl;have q2:=R18.zc 2 rfl;have lq:=R18.lt;have s0:=R8.zc 0 rfl;have ls:=R8.lt;have hwo:wr.heap.size≥NB:=hNr;have HLT:=zhd (zgG HLD.out);clear RO HLD y1 R0r R1r e8 hex;go_upto_region 6 with fail;obtain ⟨w8,hw8⟩:=zn (wr.alloc (.cells #[k] 3));obtain ⟨B3,hB3⟩:=zn wr.heap.size;rw[←hw8]at R8 hex8 R08 R18 RO8 HLD8 y8 hN8 KS p0 lp q0 q1 q2 lq s0 ls ⊢;rw[←hB3]at R8 s0 ls hwo HLT ⊢;have HBN:Hid ((Value.slice la nl lc).ownBlock=some B3→False):=zhd fun h=>absurd (HLT.out B3 h) (Nat.lt_irrefl _);clear HLT;have HSN:Hid (∀b,b=sndB s.tab cl r f k→b=true→sndB s.tab cl r f k=true):=zhd fun b h1 h2=>by rw[←h1,h2]
  obtain ⟨b,hb⟩:=zn (sndB s.tab cl r f k);have HSN2:=zhd (HSN.out b hb);rw[←hb]at KS HFDk HSKk;clear hw8 hB3 hb HSN;go_wp2_with fail;refine KS.out.mono ?_;rintro _ w9 ⟨_,rfl,hb9,rfl⟩;have hex9:=zb hex8 hb9;have R09:=R08.ext hb9;have R19:=R18.ext hb9;have R89:=R8.ext hb9;have RO9:=RO8.ext hb9;have HLD9:=zhd (zT HLD8.out hb9);have y9:=y8.trans (hb9.mono (by omega));have hN9:NB≤w9.heap.size:=by have:=hb9.size;omega
  clear KS hb9 hex8 R08 R18 R8 RO8 HLD8 y8 hN8 p0 lp q0 q1 q2 lq s0 ls;cases b with
  | false=>
   obtain ⟨⟨h1,h2⟩,h3⟩:=HSKk.out rfl;rw[←zd5 h2]at RO9;rw[←h1]at HLD9;have HNL2:Hid (nl=manyN s.tab cl r f t (k+1)):=zhd (by rw[h3];exact HNL.out);clear h1 h2 h3 HFDk HSKk HSN2 HNL R09 R19 R89 hex9;go_wp2;go_roundw
   case rel=>exact ⟨k+1,nl,lc,la,by omega,by go_num,rfl,HNL2,y9,hN9,RO9,HLD9⟩
   case measure=>simp[intOf];omega
  | true=>
  have hsn:=HSN2.out rfl;have hcl:(ledI s.tab cl r f t k).length=nl:=by rw[Xc,HNL.out]
  have HIL:Hid (Ints (fun b=>NB≤b) w9 (.slice la nl lc) (ledI s.tab cl r f t k)):=zhd (zaI hcl HLD9.out (HLW.out k hk));have KIX:Hid (Calls Tryz.prog 101 #[.slice la nl lc,.func (.func 102) #[] #[.pointer (some ⟨w.heap.size,0,none⟩),.pointer (some ⟨w.heap.size+1,0,none⟩),.pointer (some ⟨B3,0,none⟩)]] w9 (Post w9 fun _ q=>q=.int .i64 (minT (fun j=>eqC s.tab cl t (nth (ledI s.tab cl r f t k) j).toNat k) 0 nl))):=zhd (by
   have:=zcl (b:=fun j=>eqC s.tab cl t (nth (ledI s.tab cl r f t k) j).toNat k) (c1:=.pointer (some ⟨w.heap.size,0,none⟩)) (c2:=.pointer (some ⟨w.heap.size+1,0,none⟩)) (c3:=.pointer (some ⟨B3,0,none⟩)) (cf:=102) HIL.out (by omega) (fun args w=>by rfl) (fun j hj W hW=>by
    rw[hcl]at hj;obtain ⟨d,h1,h2,h3⟩:=HBD.out k hk j (by rw[←HNL.out];exact hj);rw[h1,Int.toNat_natCast];exact HKC.out W k d B3 (zb hex9 hW) hlt (by omega) hsn h3 (R09.ext hW) (R19.ext hW) (R89.ext hW))
   rw[hcl]at this;exact this)
  have HFD2:=zhd (HFDk.out rfl);rw[←HNL.out]at HFD2;obtain ⟨z,hz⟩:=zn (minT (fun j=>eqC s.tab cl t (nth (ledI s.tab cl r f t k) j).toNat k) 0 nl);rw[←hz]at KIX HFD2;clear hz hsn hcl HIL HFDk HSKk HSN2 HNL;go_wp2_with fail;refine KIX.out.mono ?_;rintro _ w10 ⟨_,rfl,hb10,rfl⟩;replace R89:=R89.ext hb10;have ROx:=RO9.ext hb10;have HLDx:=zhd (zT HLD9.out hb10);have yx:=y9.trans (hb10.mono (by omega));have hNx:NB≤w10.heap.size:=by have:=hb10.size;omega
  have qo:=Yg O m cap hlt;have HRO:=zhd ROx;have hxl:k<(outK s.tab cl r f t m k).length:=by rw[zce];exact hlt
  clear KIX hb10 R09 R19 RO9 HLD9 y9 hN9 hex9 ROx;rcases HFD2.out with ⟨j,hj,hzj,hsv,hld,hmn⟩ | ⟨hzj,hsv,hld,hmn⟩
  ·subst hzj;have HST:Hid ((outK s.tab cl r f t m k).set k (j:Int)=outK s.tab cl r f t m (k+1)):=zhd (by rw[←hsv];exact zah hlt);have HNL2:Hid (nl=manyN s.tab cl r f t (k+1)):=zhd hmn.symm;rw[←hld]at HLDx;have s0:=R89.zc 0 rfl;have ls:=R89.lt;have co:w10.cell? ⟨O,k,none⟩=some (.int .i64 (nth (outK s.tab cl r f t m k) k)):=HRO.out.cell (by rw[List.getElem?_append_left (by rw[List.length_map];exact hxl),List.getElem?_map,get?_nth hxl];rfl);have fo:=HRO.out.free k;have lo:=HRO.out.lt;have RO2:=HRO.out.set k (.int .i64 (j:Int));rw[X9 hxl,HST.out]at RO2;have y2:=yx.setCell (p:=⟨O,k,none⟩) (Nat.le_refl O) (.int .i64 (j:Int));have hN2:NB≤(w10.setCell ⟨O,k,none⟩ (.int .i64 (j:Int))).heap.size:=by simp;omega
   have HL2:=zhd (zI (S:=fun b=>b≠O) HLDx.out (.of_grown (zj w10 O k (.int .i64 (j:Int))) fun b hb e=>hb (by injection e with e;exact e.symm)) (fun k' hk'=>by have:=yR HLDx.out k' hk';omega));have dz:decide ((j:Int)<0)=false:=decide_eq_false (by omega);clear HFD2 hsv hld hmn HST R89 HRO yx hNx HLDx hxl;go_wp2;go_roundw
   case rel=>exact ⟨k+1,nl,lc,la,by omega,by go_num,rfl,HNL2,y2,hN2,RO2,HL2⟩
   case measure=>simp[intOf];omega
  ·subst hzj;have HST:Hid ((outK s.tab cl r f t m k).set k (nl:Int)=outK s.tab cl r f t m (k+1)):=zhd (by rw[←hsv];exact zah hlt);have HNL2:Hid (nl+1=manyN s.tab cl r f t (k+1)):=zhd hmn.symm;have HLE:=zhd hld;have HOWB:=zhd (yR HLDx.out);have hB3N:NB≤B3:=hwo;have s0:=R89.zc 0 rfl;have ls:=R89.lt;have HR89:=zhd R89;have dz:decide ((-1:Int)<0)=true:=rfl;clear HFD2 hsv hld hmn R89;go_wp2_with (at_builtin;refine yc rfl (.tmp 37) (.tmp 39) 36 rfl 3 _ 8 Tryz.underlying36 zH rfl NB (.slice la nl lc) _ _ rfl HLDx.out (.int .i64 k) rfl rfl (by omega) (by omega) hNx ?_;intro g7 c7 w11 hown7 hbel7 hag7 hat7;have RO7:=HRO.out.agree (hag7 (fun b=>b<NB) (fun k' hk' e=>by have:=HOWB.out k' hk';omega)) hOw;have co:w11.cell? ⟨O,k,none⟩=some (.int .i64 (nth (outK s.tab cl r f t m k) k)):=RO7.cell (by rw[List.getElem?_append_left (by rw[List.length_map];exact hxl),List.getElem?_map,get?_nth hxl];rfl);have fo:=RO7.free k;have lo:=RO7.lt;have hk9:(Value.slice la nl lc).ownBlock=some B3→False:=(fun hk'=>HBN.out hk');have s1:=(HR89.out.agree (hag7 (fun b=>b=B3) (fun k' hk' e=>hk9 (by rw[hk',e]))) rfl).zc 0 rfl;have l9:=(HR89.out.agree (hag7 (fun b=>b=B3) (fun k' hk' e=>hk9 (by rw[hk',e]))) rfl).lt);have HL7:Hid (w11.ownsRow NB 3 1 (.slice (some ⟨g7,0,none⟩) (nl+1) c7) (nl+1) ((ledI s.tab cl r f t (k+1)).map (Value.int .i64))):=zhd (by rw[HLE.out];simpa using hown7);have RO2:=RO7.set k (.int .i64 (nl:Int));rw[X9 hxl,HST.out]at RO2;have hb7:=yx.trans (hbel7.mono (by omega));have y2:=hb7.setCell (p:=⟨O,k,none⟩) (Nat.le_refl O) (.int .i64 (nl:Int));have hN2:NB≤(w11.setCell ⟨O,k,none⟩ (.int .i64 (nl:Int))).heap.size:=by have:=hbel7.size;simp;omega
   have HL2:=zhd (zI (S:=fun b=>b≠O) HL7.out (.of_grown (zj w11 O k (.int .i64 (nl:Int))) fun b hb e=>hb (by injection e with e;exact e.symm)) (fun k' hk'=>by have:=yR HL7.out k' hk';omega));clear hown7 hbel7 hag7 hat7 RO7 yx hNx HLDx hxl HST HRO HL7 hb7 HOWB HR89 HLE;go_wp2;go_roundw
   case rel=>exact ⟨k+1,nl+1,c7,_,by omega,by go_num,rfl,HNL2,y2,hN2,RO2,HL2⟩
   case measure=>simp[intOf];omega
end Go.Proofs.YtiabbjolepnjkaaGreat
