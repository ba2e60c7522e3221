/- Part of the proof that the laws answer true for every input. -/
import Derived.Test.YtiabbjolepnjkaaGreatPDfB04
set_option linter.unusedSimpArgs false
set_option linter.unnecessarySimpa false
set_option linter.unusedVariables false
set_option maxRecDepth 100000
set_option maxHeartbeats 40000000
namespace Go.Proofs.YtiabbjolepnjkaaGreat
open Go.RowKit
attribute [local go_sem ↓] Go.wp_at_zero Go.wp_at_succ
theorem X9 {A:Nat→Prop} {w:World} {g:Nat} {s:SysF} {cl:List Int} {r f t c d:Nat} (h:ScnM A w g s cl) (hc':c<mN cl) (hd':d<mN cl) (sc':sndB s.tab cl r f c=true) (sd':sndB s.tab cl r f d=true):
  Calls Tryz.prog 74 #[.pointer (some ⟨g,0,none⟩),.agg #[r,f,t],c,d] w (Post w fun _ q=>q=.bool (eqC s.tab cl t c d)):=by
 have hU:=h.dat.used;have KP1:Hid (∀W,Below w.heap.size w W→Calls Tryz.prog 107 #[.pointer (some ⟨g,0,none⟩),.agg #[r,f,t],.int .i64 (fclN cl c:Nat),.int .i64 (fclN cl d:Nat)] W (Post W fun _ q=>q=.bool (folP s.tab (nth cl) t (fclN cl c) (fclN cl d)))):=zhd fun W hW=>zab (h.ext hW) (hU.first hc').1 (hU.first hd').1 (yZ.1 sc').1 (yZ.1 sc').2;have KP2:Hid (∀W,Below w.heap.size w W→Calls Tryz.prog 107 #[.pointer (some ⟨g,0,none⟩),.agg #[r,f,t],.int .i64 (fclN cl d:Nat),.int .i64 (fclN cl c:Nat)] W (Post W fun _ q=>q=.bool (folP s.tab (nth cl) t (fclN cl d) (fclN cl c)))):=zhd fun W hW=>zab (h.ext hW) (hU.first hd').1 (hU.first hc').1 (yZ.1 sd').1 (yZ.1 sd').2;have HR:Hid (eqC s.tab cl t c d=(folP s.tab (nth cl) t (fclN cl c) (fclN cl d)&&folP s.tab (nth cl) t (fclN cl d) (fclN cl c))):=zhd rfl;obtain ⟨q,hq⟩:=zn (eqC s.tab cl t c d);rw[←hq]at HR ⊢;obtain ⟨ca,cc,sa,sc,ta,tc,xa,xc,a3,c3,fa,fc,mb,R,_,hM,ht,hr,hL⟩:=h.mem;obtain ⟨hg,hgd,hlen,hfew⟩:=h.dat
 have qc:=hL.idx (k:=c) (by rw[xt];exact hc');have cc':=hL.cellN (k:=c) (by rw[xt];exact hc');rw[zc4 hc']at cc';have qd:=hL.idx (k:=d) (by rw[xt];exact hd');have cd':=hL.cellN (k:=d) (by rw[xt];exact hd');rw[zc4 hd']at cd';obtain ⟨x,hxx⟩:=zn (fclN cl c);obtain ⟨y,hyy⟩:=zn (fclN cl d);rw[←hxx]at cc' KP1 KP2 HR;rw[←hyy]at cd' KP1 KP2 HR;obtain ⟨b1,hb1⟩:∃b,b=folP s.tab (nth cl) t x y:=⟨_,rfl⟩;obtain ⟨b2,hb2⟩:∃b,b=folP s.tab (nth cl) t y x:=⟨_,rfl⟩;rw[←hb1]at KP1 HR;rw[←hb2]at KP2 HR;obtain ⟨m,hmx⟩:=zn (mN cl);rw[←hmx]at qc qd R;have ex:=ze w (.cells #[r,f,t] 68);have R1:=zi w [r,f,t] 68;have R0:=R.ext ex;have g11:=R0.zc 11 rfl;have lg:=R0.lt;have cc1:=zm cc' ex;have cd1:=zm cd' ex;have bc:=World.block_lt_of_cell? _ _ cc1;have bd:=World.block_lt_of_cell? _ _ cd1;have HX:=zhd (fun n=>za ex (zb _ _ n));have HR1:=zhd R1;clear hM ht hr hL hg hgd hlen hfew h hc' hd' hxx hyy hb1 hb2 hmx cc' cd' R hq hU sc' sd' ex R1;go_enter Tryz.func74,Tryz.ntmps74;go_upto_region 1 with fail;obtain ⟨w1,hw1⟩:=zn (w.alloc (.cells #[r,f,t] 68));rw[←hw1]at g11 lg cc1 cd1 bc bd HX HR1 R0 ⊢;clear hw1 R0;go_quiet (fail);refine zU fun w2 hq2=>?_;obtain ⟨n2,rfl⟩:=hq2;have ex:=HX.out n2;have R1:=HR1.out.ext (zb w1.heap.size w1 n2);obtain ⟨w2,hw2⟩:=zn (w1.drewN n2);rw[←hw2]at ex R1 ⊢;clear HX HR1 g11 lg cc1 cd1 bc bd qc qd hw2;have p0:=R1.zc 0 rfl;have p1:=R1.zc 1 rfl;have p2:=R1.zc 2 rfl;have lp:=R1.lt;go_wp2_with fail;refine (KP1.out _ ex).mono ?_;rintro _ w3 ⟨_,rfl,hb,rfl⟩;replace R1:=R1.ext hb;replace ex:=za ex hb;clear hb KP1 p0 p1 p2 lp;cases b1 with
 | false=>
  have RE:Hid (q=false):=zhd (by rw[HR.out];rfl);clear HR KP2;go_wp2;go_ret;exact .mk ex (zE RE.out.symm)
 | true=>
  have RE:Hid (q=b2):=zhd (by rw[HR.out];rfl);clear HR;have p0:=R1.zc 0 rfl;have p1:=R1.zc 1 rfl;have p2:=R1.zc 2 rfl;have lp:=R1.lt;go_wp2_with fail;refine (KP2.out _ ex).mono ?_;rintro _ w4 ⟨_,rfl,hb,rfl⟩;replace ex:=za ex hb;clear hb KP2 p0 p1 p2 lp R1;go_wp2;go_ret;exact .mk ex (zE RE.out.symm)
theorem ziK {f:Nat→Bool} {n t:Nat} (ht:t<n) (h:f t=true) (hl:∀i,i<t→f i=false):minT f 0 n=(t:Int):=by
 rcases minF f n 0 with ⟨_,h1⟩ | ⟨u,h1,_,h3,h4,h5⟩
 ·rw[h1 t (by omega) (by omega)]at h;cases h
 ·rw[h1];rcases Nat.lt_trichotomy u t with h6 | h6 | h6
  ·rw[hl u h6]at h4;cases h4
  ·rw[h6]
  ·rw[h5 t (by omega) h6]at h;cases h
theorem ziF {f:Nat→Bool} {n:Nat} (hl:∀i,i<n→f i=false):minT f 0 n= -1:=by
 rcases minF f n 0 with ⟨h,_⟩ | ⟨u,h1,_,h3,h4,_⟩
 ·exact h
 ·rw[hl u (by omega)]at h4;cases h4
theorem zff {S:Nat→Prop} {w:World} {va:Value} {l:List Int} {cf:FuncId} {c1 c2 c3:Value} {b:Nat→Bool} (h:Ints S w va l) (hm:l.length≤60000) (eg:∀args w,(callFunc cf args).run Tryz.prog w=.ok (.enter cf args) w)
  (hK:∀k,k<l.length→∀W,Below w.heap.size w W→Calls Tryz.prog cf #[nth l k,c1,c2,c3] W (Post W fun _ q=>q=.bool (b k))):
  Calls Tryz.prog 101 #[va,.func (.func cf) #[] #[c1,c2,c3]] w (Post w fun _ q=>q=.int .i64 (minT b 0 l.length)):=by
 have HY:Hid ((∀t,t<l.length→b t=true→(∀i,i<t→b i=false)→minT b 0 l.length=(t:Int))∧((∀i,i<l.length→b i=false)→minT b 0 l.length= -1)):=zhd ⟨fun t ht h hl=>ziK ht h hl,ziF⟩;obtain ⟨q,hq⟩:=zn (minT b 0 l.length);rw[←hq]at HY ⊢;obtain ⟨a,c,rfl,_⟩:=h.form;have HI:=zhd h;have HK:=zhd hK;have H0:Hid (∀i,i<0→b i=false):=zhd fun i hi=>by omega
 have ex:=Below.refl w.heap.size w;clear h hK hq;go_enter Tryz.func101,Tryz.ntmps101;go_wp2;go_loopw [5,8] (fun _ iv wr=>∃k:Nat,k≤l.length∧iv=.int .i64 k∧Hid (∀i,i<k→b i=false)∧Below w.heap.size w wr) (fun _ iv _=>l.length - (intOf iv).toNat)
 case atStart=>exact ⟨0,Nat.zero_le _,rfl,H0,ex⟩
 case round=>
  clear ex H0;obtain ⟨k,hk,rfl,HN,ex⟩:=hrel;by_cases hlt:k<l.length
  case neg=>
   have RE:=zhd (HY.out.2 fun i hi=>HN.out i (by omega));clear HY HN;go_wp2;go_ret;exact .mk ex (zr RE.out.symm)
  have qk:=(HI.out.ext ex).idx hlt;have ck:=(HI.out.ext ex).cellN hlt;have bk:=World.block_lt_of_cell? _ _ ck;have KK:=zhd (HK.out k hlt);have HYk:=zhd (HY.out.1 k hlt);obtain ⟨y,hy⟩:=zn (nth l k);obtain ⟨z,hz⟩:=zn (b k);rw[←hy]at ck KK;rw[←hz]at KK HYk;have HZ:=zhd hz;clear hy hz;go_wp2_with fail;refine (KK.out _ ex).mono ?_;rintro _ w1 ⟨_,rfl,hb,rfl⟩;replace ex:=za ex hb;clear hb KK qk ck bk;cases z with
  | true=>
   have RE:=zhd (HYk.out rfl HN.out);clear HY HYk HN;go_wp2;go_ret;exact .mk ex (zr RE.out.symm)
  | false=>
   have HN2:Hid (∀i,i<k+1→b i=false):=zhd fun i hi=>by
    by_cases e:i=k
    ·rw[e];exact HZ.out.symm
    ·exact HN.out i (by omega)
   clear HYk HN;go_wp2;go_roundw
   case rel=>exact ⟨k+1,by omega,by go_num,HN2,ex⟩
   case measure=>simp[intOf];omega
end Go.Proofs.YtiabbjolepnjkaaGreat
namespace Go.Proofs.YtiabbjolepnjkaaGreat
open Go.RowKit
attribute [local go_sem ↓] Go.wp_at_zero Go.wp_at_succ
theorem zdv {w:World} {base n:Nat} {e:TypeId} {v:Value} {l:List Int} (h:w.ownsRow base e 1 v n (l.map (Value.int .i64))) (hn:0<n):∃g cap ys,v=.slice (some ⟨g,0,none⟩) n cap∧base≤g∧Row w g e (l.map (Value.int .i64)++ys)∧l.length=n∧n+ys.length=cap∧cap≤maxLen:=by
 obtain ⟨h1,h2⟩:=h;rcases h2 with ⟨_,h3⟩ | ⟨g,cap,cur,rfl,hb,hg,hc,hm,hs,ht⟩
 ·omega
 ·rw[List.length_map,Nat.mul_one]at h1;rw[Nat.mul_one]at ht hs;refine ⟨g,cap,cur.toList.drop n,rfl,hb,?_,h1,?_,hm⟩
  ·show w.heap[g]? =_;rw[hg,←ht,List.take_append_drop]
  ·rw[List.length_drop];have:cur.toList.length=cap:=by rw[Array.length_toList];exact hs
   omega
theorem ZI {w:World} {base g n cap:Nat} {e:TypeId} {l:List Int} {ys:List Value} (R:Row w g e (l.map (Value.int .i64)++ys)) (hb:base≤g) (hl:l.length=n) (hc:n+ys.length=cap) (hm:cap≤maxLen):w.ownsRow base e 1 (.slice (some ⟨g,0,none⟩) n cap) n (l.map (Value.int .i64)):=by
 refine ⟨by rw[List.length_map,hl,Nat.mul_one],.inr ⟨g,cap,(l.map (Value.int .i64)++ys).toArray,rfl,hb,R,by omega,hm,?_,?_⟩⟩
 ·rw[List.size_toArray,List.length_append,List.length_map,hl,Nat.mul_one];exact hc
 ·rw[Nat.mul_one,List.take_left' (by rw[List.length_map,hl])]
def outK (T:List (List Int)) (cl:List Int) (r f t m k:Nat):List Int:=(List.range m).map fun c=>if c<k then symV T cl r f t c else -1
section
variable {N K:Nat} {T:List (List Int)} {cl:List Int} {r f t m k:Nat}
theorem zef:(outK T cl r f t m k).length=m:=by simp[outK]
theorem zfp:outK T cl r f t m 0=List.replicate m (-1):=by
 unfold outK;apply List.ext_getElem
 ·simp
 ·intro i h1 h2;simp
theorem zfP:outK T cl r f t m m=symL T cl r f t m:=by
 unfold outK symL;apply List.map_congr_left;intro c hc;rw[if_pos (List.mem_range.1 hc)]
theorem zf6 (h:symV T cl r f t k= -1):outK T cl r f t m (k+1)=outK T cl r f t m k:=by
 unfold outK;apply List.map_congr_left;intro c hc;by_cases e:c=k
 ·subst e;rw[if_pos (by omega),if_neg (by omega),h]
 ·by_cases e2:c<k
  ·rw[if_pos (by omega),if_pos e2]
  ·rw[if_neg (by omega),if_neg e2]
theorem zbl (hk:k<m):(outK T cl r f t m k).set k (symV T cl r f t k)=outK T cl r f t m (k+1):=by
 apply List.ext_getElem
 ·simp[outK]
 ·intro i h1 h2;have hi:i<m:=by simpa[outK] using h2
  simp only[outK,List.getElem_set,List.getElem_map,List.getElem_range];by_cases e:k=i
  ·subst e;rw[if_pos rfl,if_pos (by omega)]
  ·rw[if_neg e];by_cases e2:i<k
   ·rw[if_pos e2,if_pos (by omega)]
   ·rw[if_neg e2,if_neg (by omega)]
theorem Z5 {l:List Int} {ys:List Value} {k:Nat} (hk:k<l.length) (x:Int):(l.map (Value.int .i64)++ys).set k (.int .i64 x)=(l.set k x).map (Value.int .i64)++ys:=by
 rw[List.set_append_left _ _ (by rw[List.length_map];exact hk),List.map_set]
theorem ziB:∀{l:List Nat} {x i:Nat},l[i]? =some x→l.idxOf x≤i
 | [],_,_,h=>by simp at h
 | a::l,x,0,h=>by
  simp at h;subst h;simp[List.idxOf_cons]
 | a::l,x,i+1,h=>by
  have:=ziB (l:=l) (x:=x) (i:=i) (by simpa using h);rw[List.idxOf_cons];cases hh:a==x<;>simp<;>omega
def ledL (T:List (List Int)) (cl:List Int) (r f t k:Nat):List Nat:=firsts (symK T cl r f t k)
def ledI (T:List (List Int)) (cl:List Int) (r f t k:Nat):List Int:=(ledL T cl r f t k).map fun d:Nat=>(d:Int)
theorem zaK:(ledI T cl r f t k).length=manyN T cl r f t k:=by unfold ledI ledL manyN;rw[List.length_map]
theorem Xs (hT:TabOK N K T) (hn:T.Nodup) (hu:Used T cl m) (hk:k≤m) {j:Nat} (hj:j<manyN T cl r f t k):∃d:Nat,nth (ledI T cl r f t k) j=(d:Int)∧d<k∧sndB T cl r f d=true∧(ledL T cl r f t k)[j]? =some d:=by
 have hj':j<(ledL T cl r f t k).length:=hj;have hm:=List.getElem_mem hj';obtain ⟨h1,h2,_⟩:=zdR hT hn hu hk hm;refine ⟨(ledL T cl r f t k)[j],?_,h1,h2,List.getElem?_eq_getElem hj'⟩;unfold ledI;rw[yM (by rw[List.length_map];exact hj'),List.getElem_map]
theorem zhq (hT:TabOK N K T) (hn:T.Nodup) (hu:Used T cl m) (hk:k<m) (sc:sndB T cl r f k=true):
  (∃j:Nat,j<manyN T cl r f t k∧minT (fun j=>eqC T cl t (nth (ledI T cl r f t k) j).toNat k) 0 (manyN T cl r f t k)=(j:Int)∧symV T cl r f t k=(j:Int)∧ledI T cl r f t (k+1)=ledI T cl r f t k∧manyN T cl r f t (k+1)=manyN T cl r f t k)∨
  (minT (fun j=>eqC T cl t (nth (ledI T cl r f t k) j).toNat k) 0 (manyN T cl r f t k)= -1∧symV T cl r f t k=(manyN T cl r f t k:Int)∧ledI T cl r f t (k+1)=ledI T cl r f t k++[(k:Int)]∧manyN T cl r f t (k+1)=manyN T cl r f t k+1):=by
 have hq:∀j,j<manyN T cl r f t k→∃d:Nat,nth (ledI T cl r f t k) j=(d:Int)∧(ledL T cl r f t k)[j]? =some d∧(eqC T cl t d k=true↔d=keyC T cl r f t k):=fun j hj=>by
  obtain ⟨d,h1,h2,h3,h4⟩:=Xs hT hn hu (by omega) hj;exact ⟨d,h1,h4,zi9 hT hn hu hk sc (List.mem_of_getElem? h4)⟩
 rcases zcm (t:=t) hT hn hu hk sc with ⟨h1,h2,h3⟩ | ⟨h1,h2,h3,h4⟩
 ·left;have hj:(ledL T cl r f t k).idxOf (keyC T cl r f t k)<manyN T cl r f t k:=List.idxOf_lt_length_iff.2 h1;refine ⟨(ledL T cl r f t k).idxOf (keyC T cl r f t k),hj,?_,h3,by unfold ledI ledL;rw[h2],by unfold manyN;rw[h2]⟩;refine ziK hj ?_ fun i hi=>?_
  ·obtain ⟨d,e1,e2,e3⟩:=hq _ hj;rw[e1,Int.toNat_natCast];refine e3.2 ?_;have:(ledL T cl r f t k)[(ledL T cl r f t k).idxOf (keyC T cl r f t k)]? =some (keyC T cl r f t k):=by
    rw[List.getElem?_eq_getElem (show (ledL T cl r f t k).idxOf (keyC T cl r f t k)<(ledL T cl r f t k).length from hj),List.getElem_idxOf]
   rw[this]at e2;exact (Option.some.inj e2).symm
  ·obtain ⟨d,e1,e2,e3⟩:=hq i (by omega);rw[e1,Int.toNat_natCast];cases e:eqC T cl t d k with
   | false=>rfl
   | true=>
    have hd:=e3.1 e;rw[hd]at e2;have:=ziB e2;omega
 ·right;refine ⟨ziF fun i hi=>?_,h4,by unfold ledI ledL;rw[h3,List.map_append];rfl,by unfold manyN;rw[h3,List.length_append];rfl⟩;obtain ⟨d,e1,e2,e3⟩:=hq i hi;rw[e1,Int.toNat_natCast];cases e:eqC T cl t d k with
  | false=>rfl
  | true=>
   have hd:=e3.1 e;have:=List.mem_of_getElem? e2;rw[hd,h1]at this;exact absurd this h2
theorem zh6 (sc:sndB T cl r f k=false):ledI T cl r f t (k+1)=ledI T cl r f t k∧symV T cl r f t k= -1:=by
 obtain ⟨h1,h2⟩:=zaS (t:=t) sc;exact ⟨by unfold ledI ledL;rw[h1],h2⟩
end
end Go.Proofs.YtiabbjolepnjkaaGreat
